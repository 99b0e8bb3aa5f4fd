
import Derived.Lib.Hide
import Derived.Deep.Cut
import Derived.IntWalk
import Derived.Deep.LoopGhost
import Derived.Deep.QuietTactic
import Derived.WalkSpells
import Derived.Deep.RegionHeld3
set_option linter.unusedVariables false
set_option linter.unusedSimpArgs false
namespace Go.Proofs.YtmddchceacmopaaGreatDoor
open Go
section
variable {P:Program} {ops:Array Oper} {Q:Exit→Act→World→Prop} {md:Region.Mode} {S:World→Prop}
theorem kK {i:Nat} {oi:Oper} {tl:List Oper} (h:ops.toList.drop i=oi::tl):ops[i]? =some oi:=by
 have h1:=congrArg (fun l=>l[0]?) h
 simp only [List.getElem?_drop,Nat.add_zero,List.getElem?_cons_zero] at h1
 rw [←Array.getElem?_toList];exact h1
theorem sZ {i:Nat} {oi:Oper} {tl:List Oper} {v:Value} {fuel:Nat} {listed:Array Bool} {a:Act} {w:World} (hi:ops.toList.drop i=oi::tl)
  (hs:Region.noSelect ops=true) (hf:Region.free md ops listed i=true) (hr:(Region.ready md ops listed).contains i=true)
  (hQ:∀c a w,Q (.panic c) (a.put oi.dst v) w→Q (.panic c) a w) (hw:Region.wanted oi (yielded ops a.tmps)=true) (hy:∀w,S w→(execOp a.eval oi).run P w= .ok (.value v) w) (hS:S w)
  (h:wpAnyH P md ops Q S fuel (listed.setIfInBounds i true) (a.put oi.dst v) w):wpAnyH P md ops Q S (fuel+1) listed a w:=
 wpAnyH_take (kK hi) hs hf hr hQ (.inl ⟨hw,hy⟩) hS h
theorem Fe {i:Nat} {oi:Oper} {tl:List Oper} {fuel:Nat} {listed:Array Bool} {a:Act} {w:World} (hi:ops.toList.drop i=oi::tl)
  (hs:Region.noSelect ops=true) (hf:Region.free md ops listed i=true) (hr:(Region.ready md ops listed).contains i=true)
  (hQ:∀c a w,Q (.panic c) (a.put oi.dst undef) w→Q (.panic c) a w) (hw:Region.wanted oi (yielded ops a.tmps)=false) (hS:S w)
  (h:wpAnyH P md ops Q S fuel (listed.setIfInBounds i true) (a.put oi.dst undef) w):wpAnyH P md ops Q S (fuel+1) listed a w:=
 wpAnyH_take (kK hi) hs hf hr hQ (.inr ⟨hw,rfl⟩) hS h
theorem fA {i:Nat} {o:Oper} {tl:List Oper} {fuel:Nat} {listed:Array Bool} {a:Act} {w:World} (ho:ops.toList.drop i=o::tl) (hr:Region.ready md ops listed=[i])
  (hw:Region.wanted o (yielded ops a.tmps)=true)
  (h:∀K':Act→World→Prop,Shut (∀a w,S w→(S w→wpAnyH P md ops Q S fuel (listed.setIfInBounds i true) a w)→K' a w)→Oper.wp P o a w K' Q):wpAnyH P md ops Q S (fuel+1) listed a w:=
 wpAnyH_ready hr (by simp) (AllReadyH.cons (kK ho) (fun K' hK=>by rw [if_pos hw];exact h K' hK) AllReadyH.nil)
theorem zP {α:Type} (l:List α) (i:Nat) (a:α):l.toArray.setIfInBounds i a=(l.set i a).toArray:=List.setIfInBounds_toArray ..
theorem zQ {α:Type} (b:α) (l:List α) (a:α):(b::l).set 0 a=a::l:=rfl
theorem zR {α:Type} (b:α) (l:List α) (i:Nat) (a:α):(b::l).set (i+1) a=b::l.set i a:=rfl
def Run (_:List Nat) (p:Prop):Prop:=p
theorem uO {p:Prop} (is:List Nat) (h:Run is p):p:=h
theorem uZ {p:Prop} (h:p):Run [] p:=h
theorem uA (i:Nat) {oi:Oper} {tl:List Oper} {v:Value} {fuel:Nat} {listed:Array Bool} {a:Act} {w:World} {q:Prop} (h:q) (hi:ops.toList.drop i=oi::tl:=by rfl)
  (hc:(Region.noSelect ops&&(Region.free md ops listed i&&(Region.ready md ops listed).contains i))=true:=by kernel_rfl) (hS:S w:=by exact hHeld)
  (hQ:∀c a w,Q (.panic c) (a.put oi.dst v) w→Q (.panic c) a w:=by exact fun _ _ _ h=>h) (hw:Region.wanted oi (yielded ops a.tmps)=true:=by rfl)
  (hy:∀w,S w→(execOp a.eval oi).run P w= .ok (.value v) w:=by intro w hSw;(try dsimp only at hSw);go_simp;(try with_reducible rfl)) (hq:q→wpAnyH P md ops Q S fuel (listed.setIfInBounds i true) (a.put oi.dst v) w:=by intro h;(try simp only [Act.put,zP,zQ,zR]);exact h):wpAnyH P md ops Q S (fuel+1) listed a w:=by
 simp only [Bool.and_eq_true] at hc
 exact sZ hi hc.1 hc.2.1 hc.2.2 hQ hw hy hS (hq h)
theorem uT {i:Nat} {is:List Nat} {oi:Oper} {tl:List Oper} {v:Value} {fuel:Nat} {listed:Array Bool} {a:Act} {w:World} {q:Prop} (h:Run is q) (hi:ops.toList.drop i=oi::tl:=by rfl)
  (hc:(Region.noSelect ops&&(Region.free md ops listed i&&(Region.ready md ops listed).contains i))=true:=by kernel_rfl) (hS:S w:=by exact hHeld)
  (hQ:∀c a w,Q (.panic c) (a.put oi.dst v) w→Q (.panic c) a w:=by exact fun _ _ _ h=>h) (hw:Region.wanted oi (yielded ops a.tmps)=true:=by rfl)
  (hy:∀w,S w→(execOp a.eval oi).run P w= .ok (.value v) w:=by intro w hSw;(try dsimp only at hSw);go_simp;(try with_reducible rfl)) (hq:q→wpAnyH P md ops Q S fuel (listed.setIfInBounds i true) (a.put oi.dst v) w:=by intro h;(try simp only [Act.put,zP,zQ,zR]);exact h):Run (i::is) (wpAnyH P md ops Q S (fuel+1) listed a w):=by
 simp only [Bool.and_eq_true] at hc
 exact sZ hi hc.1 hc.2.1 hc.2.2 hQ hw hy hS (hq h)
theorem uB (i:Nat) {oi:Oper} {tl:List Oper} {fuel:Nat} {listed:Array Bool} {a:Act} {w:World} {q:Prop} (h:q) (hi:ops.toList.drop i=oi::tl:=by rfl)
  (hc:(Region.noSelect ops&&(Region.free md ops listed i&&(Region.ready md ops listed).contains i))=true:=by kernel_rfl) (hS:S w:=by exact hHeld)
  (hQ:∀c a w,Q (.panic c) (a.put oi.dst undef) w→Q (.panic c) a w:=by exact fun _ _ _ h=>h) (hw:Region.wanted oi (yielded ops a.tmps)=false:=by rfl)
  (hq:q→wpAnyH P md ops Q S fuel (listed.setIfInBounds i true) (a.put oi.dst undef) w:=by intro h;(try simp only [Act.put,zP,zQ,zR]);exact h):wpAnyH P md ops Q S (fuel+1) listed a w:=by
 simp only [Bool.and_eq_true] at hc
 exact Fe hi hc.1 hc.2.1 hc.2.2 hQ hw hS (hq h)
theorem uS {i:Nat} {is:List Nat} {oi:Oper} {tl:List Oper} {fuel:Nat} {listed:Array Bool} {a:Act} {w:World} {q:Prop} (h:Run is q) (hi:ops.toList.drop i=oi::tl:=by rfl)
  (hc:(Region.noSelect ops&&(Region.free md ops listed i&&(Region.ready md ops listed).contains i))=true:=by kernel_rfl) (hS:S w:=by exact hHeld)
  (hQ:∀c a w,Q (.panic c) (a.put oi.dst undef) w→Q (.panic c) a w:=by exact fun _ _ _ h=>h) (hw:Region.wanted oi (yielded ops a.tmps)=false:=by rfl)
  (hq:q→wpAnyH P md ops Q S fuel (listed.setIfInBounds i true) (a.put oi.dst undef) w:=by intro h;(try simp only [Act.put,zP,zQ,zR]);exact h):Run (i::is) (wpAnyH P md ops Q S (fuel+1) listed a w):=by
 simp only [Bool.and_eq_true] at hc
 exact Fe hi hc.1 hc.2.1 hc.2.2 hQ hw hS (hq h)
theorem uK {X Y W K:Act→World→Prop} {a:Act} {w:World} {q:Prop} (hK:Shut (∀a w,X a w→(Y a w→W a w)→K a w)) (hs:X a w) (h:q) (hq:q→Y a w→W a w:=by intro h;(try simp only [Act.put,zP,zQ,zR]);exact h):K a w:=hK.out _ _ hs (hq h)
theorem uD {fuel:Nat} {listed:Array Bool} {a:Act} {w:World} (h:Q .normal a w) (hr:Region.ready md ops listed=[]:=by kernel_rfl):wpAnyH P md ops Q S fuel listed a w:=wpAnyH_done hr h fuel
theorem uW {id:Nat} {a:Act} {w:World} (S:World→Prop) (hS:S w.drew) (h:S w.drew→wpAnyH P .any ops Q S ops.size (Array.replicate ops.size false) a w.drew) (hm:P.follows .mixedOrders=true:=by kernel_rfl):(Code.region id ops true).wp P Q a w:=wp_region_held_drew hm hS h
theorem hHc (i:Nat) {o:Oper} {tl:List Oper} {fuel:Nat} {listed:Array Bool} {a:Act} {w:World}
  (h:∀K':Act→World→Prop,Shut (∀a w,S w→(S w→wpAnyH P md ops Q S fuel (listed.setIfInBounds i true) a w)→K' a w)→Oper.wp P o a w K' Q) (ho:ops.toList.drop i=o::tl:=by rfl) (hr:Region.ready md ops listed=[i]:=by kernel_rfl)
  (hw:Region.wanted o (yielded ops a.tmps)=true:=by rfl):wpAnyH P md ops Q S (fuel+1) listed a w:=fA ho hr hw h
end
theorem aa {p:Prop} (h:p):RowKit.Hid p:=h
theorem Ff {p:Prop} (h:p:=by intro w hSw;(have fG:Ext No w1 _:=hSw);(have x0:=cellOf (fG.blk HA ax));go_simp;(try with_reducible rfl)):p:=h
theorem Fg {p:Prop} (h:p:=by intro w hSw;(have fG:Ext No w1 _:=hSw);(have x0:=cellOf (fG.blk HB ax));go_simp;(try with_reducible rfl)):p:=h
theorem rU {p:Prop} (h:p:=by intro w hSw;(have fG:Ext No wr _:=hSw);(have x0:=cellOf (fG.blk HB1 ax));go_simp;(try with_reducible rfl)):p:=h
theorem CU {p:Prop} (h:p:=by intro w hSw;(have fG:Ext No wr _:=hSw);(have x0:=fG.keep HZ.1);(have x1:=fG.keep HZ.2);go_simp;(try with_reducible rfl)):p:=h
theorem CV {p:Prop} (h:p:=by intro w hSw;(have fG:Ext No wr _:=hSw);(have x0:=cellOf (fG.blk HB2 ax));go_simp;(try with_reducible rfl)):p:=h
theorem fQ {p:Prop} (h:p:=by exact Ext.af (show Ext No w1 _ from hHeld) aF):p:=h
theorem dw {p:Prop} (h:p:=by exact Ext.alloc (show Ext No w1 _ from hHeld) _):p:=h
theorem tK {p:Prop} (h:p:=by exact (show Ext No w1 _ from hHeld).aJ (Nk _ _ _ _ _) (fun i hi e=>by unfold At at e;omega)):p:=h
theorem eu {p:Prop} (h:p:=by intro _;exact HE.af aF):p:=h
theorem bz {p:Prop} (h:p:=by exact fun h=>absurd h (by decide)):p:=h
theorem aS {p:Prop} (h:p:=by exact (Ext.refl _ _).drew):p:=h
theorem mZ {p:Prop} (h:p:=by exact Ext.alloc (show Ext No V _ from hHeld) _):p:=h
theorem Dc {p:Prop} (h:p:=by intro w hSw;(have q0:=cellOf ((show Ext No V _ from hSw).blk HA ax));go_simp;(try with_reducible rfl)):p:=h
theorem De {p:Prop} (h:p:=by intro w hSw;(have x0:=cellOf ((show Ext No wr _ from hSw).blk Ca ax));go_simp;(try with_reducible rfl)):p:=h
theorem fF {p:Prop} (h:p:=by intro _;exact HE.alloc _):p:=h
theorem rX {p:Prop} (h:p:=by intro w hSw;(have x0:=cellOf ((show Ext (At g) U _ from hSw).blk BI HgA));go_simp;(try with_reducible rfl)):p:=h
theorem Dr {p:Prop} (h:p:=by intro w hSw;(have x0:=(show Ext (At g) U _ from hSw).oK TT HgI);go_simp;(try with_reducible rfl)):p:=h
theorem xW {p:Prop} (h:p:=by intro w hSw;(obtain ⟨p0,p1⟩:=Vn.out);(have x0:=(show Ext No U2 _ from hSw).keep p0);(have x1:=(show Ext No U2 _ from hSw).keep p1);go_simp;(try with_reducible rfl)):p:=h
theorem xX {p:Prop} (h:p:=by intro w hSw;(have x0:=(show Ext No wr _ from hSw).keep IP);go_simp;(try with_reducible rfl)):p:=h
theorem Dt {p:Prop} (h:p:=by intro w hSw;(obtain ⟨p1,p2,p3,p4,p5⟩:=PM.out);(have x1:=(show Ext No wr _ from hSw).keep p1);(have x2:=(show Ext No wr _ from hSw).keep p2);(have x3:=(show Ext No wr _ from hSw).keep p3);(have x4:=(show Ext No wr _ from hSw).keep p4);(have x5:=(show Ext No wr _ from hSw).keep p5);go_simp;(try with_reducible rfl)):p:=h
theorem sj {p:Prop} (h:p:=by intro _;exact HE.af hx6):p:=h
theorem nA {p:Prop} (h:p:=by exact HE.alloc _):p:=h
theorem bI {p:Prop} (h:p:=by intro w hSw;(have fG:Ext No wr _:=hSw);(have q0:=cellOf (fG.blk HB2 ax));go_simp;(try with_reducible rfl)):p:=h
theorem lH {p:Prop} (h:p:=by intro w hSw;(have fG:Ext No wr _:=hSw);(obtain ⟨p0,p1⟩:=HQS.out);(have x0:=fG.keep p0);(have x1:=fG.keep p1);go_simp;(try with_reducible rfl)):p:=h
theorem oW {p:Prop} (h:p:=by intro w hSw;(have fG:Ext No wr _:=hSw);(obtain ⟨p0,p1⟩:=HQS.out);(have q0:=fG.keep p0);go_simp;(try with_reducible rfl)):p:=h
theorem dX {p:Prop} (h:p:=by exact Ext.af (show Ext No wr _ from hHeld) aF):p:=h
theorem sP {p:Prop} (h:p:=by intro w hSw;(have x0:=cellOf ((show Ext No U _ from hSw).blk Ca ax));go_simp;(try with_reducible rfl)):p:=h
theorem Ep {p:Prop} (h:p:=by intro w hSw;(have x0:=(show Ext No U _ from hSw).keep Cb);go_simp;(try with_reducible rfl)):p:=h
theorem yj {p:Prop} (h:p:=by intro w hSw;(have x0:=cellOf ((show Ext No U2 _ from hSw).blk Ca ax));go_simp;(try with_reducible rfl)):p:=h
theorem sQ {p:Prop} (h:p:=by intro w hSw;(have x0:=cellOf ((show Ext No wx _ from hSw).blk aah ax));go_simp;(try with_reducible rfl)):p:=h
theorem Er {p:Prop} (h:p:=by intro w hSw;(have x0:=cellOf ((show Ext No wx _ from hSw).blk aag ax));go_simp;(try with_reducible rfl)):p:=h
theorem ym {p:Prop} (h:p:=by intro w hSw;(have fG:Ext No wr _:=hSw);(have q0:=cellOf (fG.blk KT ax));go_simp;(try with_reducible rfl)):p:=h
theorem aM {p:Prop} (h:p:=by intro w hSw;(try dsimp only at hSw);go_simp;(try with_reducible rfl)):p:=h
theorem dH {p:Prop} (h:p:=by (go_split_ands;refine ⟨?_,?_,?_,?_,?_⟩<;>(repeat (first|(with_reducible assumption)|(with_reducible exact Ext.refl _ _)|(with_reducible refine keepD ?_)|(with_reducible refine aO ?_)|(with_reducible refine Ext.drew ?_)|(with_reducible refine Ext.alloc ?_ _)|(with_reducible refine bY.drew ?_)|(with_reducible refine bY.alloc ?_ _)|(with_reducible refine bY.set ?_ _ _)|((with_reducible refine kX ?_ ?_);(first|(with_reducible assumption)|omega|(simp;omega)|(exact Nat.le_refl _)))|(with_reducible refine Ext.setAt ?_ _ _)|((with_reducible refine Ext.own ?_ ?_ _);rotate_left;(first|(with_reducible assumption)|omega|(simp;omega)|(exact Nat.le_refl _)))|(with_reducible refine bf aF ?_)|(with_reducible refine Ext.af ?_ aF)|(with_reducible refine bY.ext ?_ aF))))):p:=h
theorem bT {p:Prop} (h:p:=by (go_split_ands;refine ⟨?_,?_,?_,?_⟩<;>(repeat (first|(with_reducible assumption)|(with_reducible exact Ext.refl _ _)|(with_reducible refine keepD ?_)|(with_reducible refine aO ?_)|(with_reducible refine Ext.drew ?_)|(with_reducible refine Ext.alloc ?_ _)|(with_reducible refine bY.drew ?_)|(with_reducible refine bY.alloc ?_ _)|(with_reducible refine bY.set ?_ _ _)|((with_reducible refine kX ?_ ?_);(first|(with_reducible assumption)|omega|(simp;omega)|(exact Nat.le_refl _)))|(with_reducible refine Ext.setAt ?_ _ _)|((with_reducible refine Ext.own ?_ ?_ _);rotate_left;(first|(with_reducible assumption)|omega|(simp;omega)|(exact Nat.le_refl _)))|(with_reducible refine bf aF ?_)|(with_reducible refine Ext.af ?_ aF)|(with_reducible refine bY.ext ?_ aF))))):p:=h
theorem rR {p:Prop} (h:p:=by
 simp only [Option.some.injEq,Prod.mk.injEq] at e
 obtain ⟨rfl,rfl⟩:=e
 exact ⟨h.ext.size,ah rfl⟩):p:=h
theorem rT {p:Prop} (h:p:=by
 simp only [Option.some.injEq,Prod.mk.injEq] at e
 obtain ⟨rfl,rfl⟩:=e
 exact ⟨hD,aaD hb a b c⟩):p:=h
theorem Fh {p:Prop} (h:p:=by
 have E:=aa e
 clear hw e
 go_wp2_with fail
 go_ret
 rw [E]
 exact ⟨rfl,hx.af hx2⟩):p:=h
theorem adB {p:Prop} (h:p:=by
 rintro e2 w2 ⟨rfl,hx2⟩
 cases hv2:gu r2 with
 |false=>
  have e:mq r1 r2=1:=by unfold mq;rw [if_pos aK.out,if_neg (by simp [hv2])]
  have E:=aa e
  clear hv2 e
  go_wp2_with fail
  go_ret
  rw [E]
  exact ⟨rfl,hx.af hx2⟩
 |true=>
  have HV2:=aa hv2
  have cA2:=cellOf (hx2.blk HA ax)
  have cB2:=cellOf (hx2.blk HB ax)
  clear hv2 cB
  by_cases hw:r1.gen.width=r2.gen.width
  ·have e:mq r1 r2=0:=by unfold mq;rw [if_pos aK.out,if_pos HV2.out,if_pos hw]
   have hw':(r1.gen.width != r2.gen.width)=false:=by simpa using hw
   exact Fh
  have e:mq r1 r2=2:=by unfold mq;rw [if_pos aK.out,if_pos HV2.out,if_neg hw]
  have hw':(r1.gen.width != r2.gen.width)=true:=by simpa using hw
  exact Fh):p:=h
theorem CP {p:Prop} (h:p:=by
 have e:mq r1 r2=1:=by unfold mq;rw [if_neg (by simp [hv1])]
 have E:=aa e
 clear hv1 e
 go_wp2_with fail
 go_ret
 rw [E]
 exact ⟨rfl,hx⟩):p:=h
theorem CR {p:Prop} (h:p:=by
 have e:mq (bM t) (bM u)=0:=by unfold mq;rw [if_pos (kg h1.ok),if_pos (kg h2.ok),if_pos (by show (t.w:Int)=(u.w:Int);rw [hu])]
 rw [e] at h
 have e1:(bM u).gen.width=(t.w:Int):=by show (u.w:Int)=(t.w:Int);rw [hu]
 have e2:(bM u).kill.width=(t.w:Int):=by show (u.w:Int)=(t.w:Int);rw [hu]
 rw [e1,e2] at h
 exact h):p:=h
theorem mX {p:Prop} (h:p:=by
 exact ⟨fun h=>absurd h hc,fun _=>⟨rfl,(uf.af hx6).aJ hE (fun i hi e=>by unfold At at e;omega)⟩⟩):p:=h
theorem mW {p:Prop} (h:p:=by
 refine ⟨fun _=>?_,fun h=>absurd hc (by omega)⟩
 rw [BF]
 exact ⟨fg,eg,fk,ek,fc,ec,rfl,(hTr.ext hE (fun i _ e=> .inr e)).mono (fun i _ e=> .inl e),(uf.af hx6).aJ hE (fun i hi e=>by unfold At at e;omega)⟩):p:=h
theorem CX {p:Prop} (h:p:=by
 rw [←HST] at hput
 have Qy:=aa hput
 clear hput
 generalize World.setCell (World.setCell v1 _ _) _ _=v9 at*
 refine uE ?_
 go_wp2_with fail
 go_roundw
 case rel=>exact ⟨k+1,by omega,HKK,Qy⟩
 case measure=>simp [intOf];omega):p:=h
theorem bX {p:Prop} (h:p:=by
 exact (Ext.refl _ _).drew):p:=h
theorem Fj {p:Prop} (h:p:=by
 generalize World.setCell (World.setCell (World.setCell v5 _ _) _ _) _ _=v6 at*
 refine uD ?_
 go_wp2_with fail
 go_meet
 exact ⟨DA,DB,BX,BZ,SA,SB,pY,cg2,SC,SE,rfl,rfl,hJ⟩):p:=h
theorem yD {p:Prop} (h:p:=by
 refine hHc 6 fun K hK=>?_
 ((obtain ⟨hb1,hb2⟩:=hJ.bW _ _ rfl);(have cS:=cellOf hb2);(have fS:=aH hb2);(clear hb1 hb2);go_simp;(clear cS fS))
 refine uK hK tK ?_
 clear hK K hHeld
 intro hHeld
 replace hJ:=hJ.K3 k1 k2 (.int .i64 (t.w:Int)) (.slice BX (nw t.w) BZ) (.slice SA (aV t).length SB)
 generalize World.setCell (World.setCell (World.setCell v4 _ _) _ _) _ _=v5 at*
 refine hHc 7 fun K hK=>?_
 ((obtain ⟨hb1,hb2⟩:=hJ.dQ _ _ rfl);(have cS:=cellOf hb2);(have fS:=aH hb2);(clear hb1 hb2);go_simp;(clear cS fS))
 refine uK hK tK ?_
 clear hK K hHeld
 intro hHeld
 replace hJ:=hJ.K4 k1 k2 (.int .i64 (t.w:Int)) (.slice pY (nw t.w) cg2) (.slice SC (aV u).length SE)
 exact Fj):p:=h
theorem adU {p:Prop} (h:p:=by
 refine hHc 3 fun K hK=>?_
 (go_simp;go_at_call 98;(with_reducible refine (wm (fun b=>(M b∨W.heap.size≤b)∧b < v3.heap.size) u t.w _ _ _ _ HU.out (fun _ e=>e.2) ((H2.out.mono (M':=(fun b=>(M b∨W.heap.size≤b)∧b < v3.heap.size)) (fun i hi e=>e.1.elim id (fun h=>absurd hi (Nat.not_lt.2 h)))).aj (hx.out.af hJ.ext))).mono ?_);(rintro e2 v4 ⟨pY,cg2,SC,SE,rfl,hs2,hn2,aF⟩);go_simp)
 refine uK hK fQ ?_
 clear hK K hHeld
 intro hHeld
 replace hJ:=hJ.call2 k1 k2 (jf _ _ _ _ _ _) aF ⟨hs2.out,fun b e=>Nat.le_trans (hx.af hJ.ext).size (hn2 b e)⟩
 replace k2:=hJ.2
 replace hJ:=hJ.1
 clear aF hs2 hn2
 exact yD):p:=h
theorem adY {p:Prop} (h:p:=by
 refine hHc 1 fun K hK=>?_
 (go_simp;go_at_call 98;(with_reducible refine (lQ (fun b=>(M b∨W.heap.size≤b)∧b < v2.heap.size) t _ _ _ _ (fun _ e=>e.2) ((H1.out.mono (M':=(fun b=>(M b∨W.heap.size≤b)∧b < v2.heap.size)) (fun i hi e=>e.1.elim id (fun h=>absurd hi (Nat.not_lt.2 h)))).aj (hx.out.af hJ.ext))).mono ?_);(rintro e1 v3 ⟨BX,BZ,SA,SB,rfl,hs1,hn1,aF⟩);go_simp)
 refine uK hK fQ ?_
 clear hK K hHeld
 intro hHeld
 replace hJ:=hJ.vP k1 k2 (jf _ _ _ _ _ _) aF ⟨hs1.out,fun b e=>Nat.le_trans (hx.af hJ.ext).size (hn1 b e)⟩ (fun b e=>⟨.inr (Nat.le_trans (hx.af hJ.ext).size (hn1 b e)),hs1.kv b e⟩)
 replace k1:=hJ.2
 replace hJ:=hJ.1
 clear aF hs1 hn1
 exact adU):p:=h
theorem Fq {p:Prop} (h:p:=by
 refine hHc 4 fun K hK=>?_
 go_simp
 refine uK hK dw ?_
 clear hK K hHeld
 intro hHeld
 replace hJ:=hJ.lm k1 k2 #[.int .i64 0,.slice none 0 0,.slice none 0 0]
 generalize World.alloc v3 _=v4 at*
 generalize v3.heap.size=DA at*
 have Oa:=(hJ.bW _ _ rfl).1
 exact yD):p:=h
theorem adZ {p:Prop} (h:p:=by
 refine aN (i:=3) (j:=4) (by kernel_rfl) (aD.mk rfl rfl (fun K hK=>?_)) (aD.mk rfl rfl (fun K hK=>?_))
 ·(go_simp;go_at_call 98;(with_reducible refine (wm (fun b=>(M b∨W.heap.size≤b)∧b < v2.heap.size) u t.w _ _ _ _ HU.out (fun _ e=>e.2) ((H2.out.mono (M':=(fun b=>(M b∨W.heap.size≤b)∧b < v2.heap.size)) (fun i hi e=>e.1.elim id (fun h=>absurd hi (Nat.not_lt.2 h)))).aj (hx.out.af hJ.ext))).mono ?_);(rintro e2 v3 ⟨pY,cg2,SC,SE,rfl,hs2,hn2,aF⟩);go_simp)
  refine uK hK fQ ?_
  clear hK K hHeld
  intro hHeld
  replace hJ:=hJ.call2 k1 k2 (jf _ _ _ _ _ _) aF ⟨hs2.out,fun b e=>Nat.le_trans (hx.af hJ.ext).size (hn2 b e)⟩
  replace k2:=hJ.2
  replace hJ:=hJ.1
  clear aF hs2 hn2
  exact Fq
 go_simp
 refine uK hK dw ?_
 clear hK K hHeld
 intro hHeld
 replace hJ:=hJ.lm k1 k2 #[.int .i64 0,.slice none 0 0,.slice none 0 0]
 generalize World.alloc v2 _=v3 at*
 generalize v2.heap.size=DA at*
 have Oa:=(hJ.bW _ _ rfl).1
 exact adU):p:=h
theorem Fu {p:Prop} (h:p:=by
 refine hHc 5 fun K hK=>?_
 go_simp
 refine uK hK dw ?_
 clear hK K hHeld
 intro hHeld
 replace hJ:=hJ.lu k1 k2 #[.int .i64 0,.slice none 0 0,.slice none 0 0]
 generalize World.alloc v3 _=v4 at*
 generalize v3.heap.size=DB at*
 have hDB:=(hJ.dQ _ _ rfl).1
 exact yD):p:=h
theorem ad1 {p:Prop} (h:p:=by
 refine aN (i:=3) (j:=5) (by kernel_rfl) (aD.mk rfl rfl (fun K hK=>?_)) (aD.mk rfl rfl (fun K hK=>?_))
 ·(go_simp;go_at_call 98;(with_reducible refine (wm (fun b=>(M b∨W.heap.size≤b)∧b < v2.heap.size) u t.w _ _ _ _ HU.out (fun _ e=>e.2) ((H2.out.mono (M':=(fun b=>(M b∨W.heap.size≤b)∧b < v2.heap.size)) (fun i hi e=>e.1.elim id (fun h=>absurd hi (Nat.not_lt.2 h)))).aj (hx.out.af hJ.ext))).mono ?_);(rintro e2 v3 ⟨pY,cg2,SC,SE,rfl,hs2,hn2,aF⟩);go_simp)
  refine uK hK fQ ?_
  clear hK K hHeld
  intro hHeld
  replace hJ:=hJ.call2 k1 k2 (jf _ _ _ _ _ _) aF ⟨hs2.out,fun b e=>Nat.le_trans (hx.af hJ.ext).size (hn2 b e)⟩
  replace k2:=hJ.2
  replace hJ:=hJ.1
  clear aF hs2 hn2
  exact Fu
 go_simp
 refine uK hK dw ?_
 clear hK K hHeld
 intro hHeld
 replace hJ:=hJ.lu k1 k2 #[.int .i64 0,.slice none 0 0,.slice none 0 0]
 generalize World.alloc v2 _=v3 at*
 generalize v2.heap.size=DB at*
 have hDB:=(hJ.dQ _ _ rfl).1
 exact adU):p:=h
theorem adV {p:Prop} (h:p:=by
 have hlB:W.heap.size+1 < w1.heap.size:=lt_of_block HB.out
 refine uW (fun w'=>Ext No w1 w') aS fun hHeld=>?_
 have hJ:=kZ.start (N:=fun b=>M b∨W.heap.size≤b) (fun _ _=>True) (fun _ _=>True) 121 (fun b hb=> .inr (Nat.le_trans hx.size hb)) ((Ext.refl No w1).drew)
 have k1:=qh
 have k2:=qh
 generalize w1.drew=v0 at*
 refine uO [0,2] ?_
 refine uT ?_ (hy:=Ff)
 refine uT ?_ (hy:=Fg)
 refine uZ ?_
 refine gp (i:=1) (j:=4) (k:=5) (by kernel_rfl) (aD.mk rfl rfl (fun K hK=>?_)) (aD.mk rfl rfl (fun K hK=>?_)) (aD.mk rfl rfl (fun K hK=>?_))
 ·(go_simp;go_at_call 98;(with_reducible refine (lQ (fun b=>(M b∨W.heap.size≤b)∧b < v0.heap.size) t _ _ _ _ (fun _ e=>e.2) ((H1.out.mono (M':=(fun b=>(M b∨W.heap.size≤b)∧b < v0.heap.size)) (fun i hi e=>e.1.elim id (fun h=>absurd hi (Nat.not_lt.2 h)))).aj (hx.out.af hJ.ext))).mono ?_);(rintro e1 v1 ⟨BX,BZ,SA,SB,rfl,hs1,hn1,aF⟩);go_simp)
  refine uK hK fQ ?_
  clear hK K hHeld
  intro hHeld
  replace hJ:=hJ.vP k1 k2 (jf _ _ _ _ _ _) aF ⟨hs1.out,fun b e=>Nat.le_trans (hx.af hJ.ext).size (hn1 b e)⟩ (fun b e=>⟨.inr (Nat.le_trans (hx.af hJ.ext).size (hn1 b e)),hs1.kv b e⟩)
  replace k1:=hJ.2
  replace hJ:=hJ.1
  clear aF hs1 hn1
  refine gp (i:=3) (j:=4) (k:=5) (by kernel_rfl) (aD.mk rfl rfl (fun K hK=>?_)) (aD.mk rfl rfl (fun K hK=>?_)) (aD.mk rfl rfl (fun K hK=>?_))
  ·(go_simp;go_at_call 98;(with_reducible refine (wm (fun b=>(M b∨W.heap.size≤b)∧b < v1.heap.size) u t.w _ _ _ _ HU.out (fun _ e=>e.2) ((H2.out.mono (M':=(fun b=>(M b∨W.heap.size≤b)∧b < v1.heap.size)) (fun i hi e=>e.1.elim id (fun h=>absurd hi (Nat.not_lt.2 h)))).aj (hx.out.af hJ.ext))).mono ?_);(rintro e2 v2 ⟨pY,cg2,SC,SE,rfl,hs2,hn2,aF⟩);go_simp)
   refine uK hK fQ ?_
   clear hK K hHeld
   intro hHeld
   replace hJ:=hJ.call2 k1 k2 (jf _ _ _ _ _ _) aF ⟨hs2.out,fun b e=>Nat.le_trans (hx.af hJ.ext).size (hn2 b e)⟩
   replace k2:=hJ.2
   replace hJ:=hJ.1
   clear aF hs2 hn2
   refine aN (i:=4) (j:=5) (by kernel_rfl) (aD.mk rfl rfl (fun K hK=>?_)) (aD.mk rfl rfl (fun K hK=>?_))
   ·go_simp
    refine uK hK dw ?_
    clear hK K hHeld
    intro hHeld
    replace hJ:=hJ.lm k1 k2 #[.int .i64 0,.slice none 0 0,.slice none 0 0]
    generalize World.alloc v2 _=v3 at*
    generalize v2.heap.size=DA at*
    have Oa:=(hJ.bW _ _ rfl).1
    exact Fu
   go_simp
   refine uK hK dw ?_
   clear hK K hHeld
   intro hHeld
   replace hJ:=hJ.lu k1 k2 #[.int .i64 0,.slice none 0 0,.slice none 0 0]
   generalize World.alloc v2 _=v3 at*
   generalize v2.heap.size=DB at*
   have hDB:=(hJ.dQ _ _ rfl).1
   exact Fq
  ·go_simp
   refine uK hK dw ?_
   clear hK K hHeld
   intro hHeld
   replace hJ:=hJ.lm k1 k2 #[.int .i64 0,.slice none 0 0,.slice none 0 0]
   generalize World.alloc v1 _=v2 at*
   generalize v1.heap.size=DA at*
   have Oa:=(hJ.bW _ _ rfl).1
   exact ad1
  go_simp
  refine uK hK dw ?_
  clear hK K hHeld
  intro hHeld
  replace hJ:=hJ.lu k1 k2 #[.int .i64 0,.slice none 0 0,.slice none 0 0]
  generalize World.alloc v1 _=v2 at*
  generalize v1.heap.size=DB at*
  have hDB:=(hJ.dQ _ _ rfl).1
  exact adZ
 ·go_simp
  refine uK hK dw ?_
  clear hK K hHeld
  intro hHeld
  replace hJ:=hJ.lm k1 k2 #[.int .i64 0,.slice none 0 0,.slice none 0 0]
  generalize World.alloc v0 _=v1 at*
  generalize v0.heap.size=DA at*
  have Oa:=(hJ.bW _ _ rfl).1
  refine aN (i:=1) (j:=5) (by kernel_rfl) (aD.mk rfl rfl (fun K hK=>?_)) (aD.mk rfl rfl (fun K hK=>?_))
  ·(go_simp;go_at_call 98;(with_reducible refine (lQ (fun b=>(M b∨W.heap.size≤b)∧b < v1.heap.size) t _ _ _ _ (fun _ e=>e.2) ((H1.out.mono (M':=(fun b=>(M b∨W.heap.size≤b)∧b < v1.heap.size)) (fun i hi e=>e.1.elim id (fun h=>absurd hi (Nat.not_lt.2 h)))).aj (hx.out.af hJ.ext))).mono ?_);(rintro e1 v2 ⟨BX,BZ,SA,SB,rfl,hs1,hn1,aF⟩);go_simp)
   refine uK hK fQ ?_
   clear hK K hHeld
   intro hHeld
   replace hJ:=hJ.vP k1 k2 (jf _ _ _ _ _ _) aF ⟨hs1.out,fun b e=>Nat.le_trans (hx.af hJ.ext).size (hn1 b e)⟩ (fun b e=>⟨.inr (Nat.le_trans (hx.af hJ.ext).size (hn1 b e)),hs1.kv b e⟩)
   replace k1:=hJ.2
   replace hJ:=hJ.1
   clear aF hs1 hn1
   exact ad1
  go_simp
  refine uK hK dw ?_
  clear hK K hHeld
  intro hHeld
  replace hJ:=hJ.lu k1 k2 #[.int .i64 0,.slice none 0 0,.slice none 0 0]
  generalize World.alloc v1 _=v2 at*
  generalize v1.heap.size=DB at*
  have hDB:=(hJ.dQ _ _ rfl).1
  exact adY
 go_simp
 refine uK hK dw ?_
 clear hK K hHeld
 intro hHeld
 replace hJ:=hJ.lu k1 k2 #[.int .i64 0,.slice none 0 0,.slice none 0 0]
 generalize World.alloc v0 _=v1 at*
 generalize v0.heap.size=DB at*
 have hDB:=(hJ.dQ _ _ rfl).1
 refine aN (i:=1) (j:=4) (by kernel_rfl) (aD.mk rfl rfl (fun K hK=>?_)) (aD.mk rfl rfl (fun K hK=>?_))
 ·(go_simp;go_at_call 98;(with_reducible refine (lQ (fun b=>(M b∨W.heap.size≤b)∧b < v1.heap.size) t _ _ _ _ (fun _ e=>e.2) ((H1.out.mono (M':=(fun b=>(M b∨W.heap.size≤b)∧b < v1.heap.size)) (fun i hi e=>e.1.elim id (fun h=>absurd hi (Nat.not_lt.2 h)))).aj (hx.out.af hJ.ext))).mono ?_);(rintro e1 v2 ⟨BX,BZ,SA,SB,rfl,hs1,hn1,aF⟩);go_simp)
  refine uK hK fQ ?_
  clear hK K hHeld
  intro hHeld
  replace hJ:=hJ.vP k1 k2 (jf _ _ _ _ _ _) aF ⟨hs1.out,fun b e=>Nat.le_trans (hx.af hJ.ext).size (hn1 b e)⟩ (fun b e=>⟨.inr (Nat.le_trans (hx.af hJ.ext).size (hn1 b e)),hs1.kv b e⟩)
  replace k1:=hJ.2
  replace hJ:=hJ.1
  clear aF hs1 hn1
  exact adZ
 go_simp
 refine uK hK dw ?_
 clear hK K hHeld
 intro hHeld
 replace hJ:=hJ.lm k1 k2 #[.int .i64 0,.slice none 0 0,.slice none 0 0]
 generalize World.alloc v1 _=v2 at*
 generalize v1.heap.size=DA at*
 have Oa:=(hJ.bW _ _ rfl).1
 exact adY):p:=h
theorem mY {p:Prop} (h:p:=by
 exact ⟨0,Nat.zero_le _,rfl,Ext.refl _ _,aa (fun j _ hj=>absurd hj (Nat.not_lt_zero _))⟩):p:=h
theorem C8 {p:Prop} (h:p:=by
 rw [Od K zp z hz hs]
 exact List.take_of_length_le (by rw [lD];simp)):p:=h
theorem Da {p:Prop} (h:p:=by
 have hm:=List.getElem_mem hj
 exact ((h.r _ hm).gG hE (fun i hi e=>h.zN j t hj ht hne i hi (by rw [GV];exact Vk i e)) (fun i _ e=>Qe i e)).mono (fun i _ e=>hsub i e)):p:=h
theorem C9 {p:Prop} (h:p:=by
 refine kA.mono (kA.ext hokr hE (fun i _ e=>Qe i e)) (fun i _ e=>?_)
 rcases e with e|e
 ·exact hsub i e
 exact .inr (.inr (.inr (.inl ⟨_,hmem,e⟩)))):p:=h
theorem Db {p:Prop} (h:p:=by
 exact ⟨⟨_,_,_,_,_,_,hr.cellAt (j:=0) hi (by decide) rfl,hr.cellAt (j:=1) hi (by decide) rfl,hr.cellAt (j:=2) hi (by decide) rfl,hr.cellAt (j:=3) hi (by decide) rfl,hr.cellAt (j:=4) hi (by decide) rfl,hr.cellAt (j:=5) hi (by decide) rfl⟩,World.ownsRow.frozenAt hr.own _,World.ownsRow.frozenAt hr.own _,World.ownsRow.frozenAt hr.own _,World.ownsRow.frozenAt hr.own _,World.ownsRow.frozenAt hr.own _,World.ownsRow.frozenAt hr.own _⟩):p:=h
theorem Dh {p:Prop} (h:p:=by
 rcases h.2 with ⟨_,h0⟩|⟨g,cap,_,e,_⟩
 ·exact absurd h0 hn
 exact ⟨g,cap,e⟩):p:=h
theorem Dm {p:Prop} (h:p:=by
 have hm:=List.getElem_mem hj
 exact (((h.r _ hm).gG hx (fun i hi e=>h.zN j t hj ht hne i hi (by rw [hq];exact e)) (fun i _ e=>Qw i e)).gG hE (fun i hi e=>(h.br _ hm i hi).2 (by rw [show i=g from e];rfl)) (fun i _ e=>Mv i e)).mono (fun i _ e=>hsub i e)):p:=h
theorem Dl {p:Prop} (h:p:=by
 have h1:=aZ h.i hx (fun k hk e=>hqg (by rw [←show g=k from by simpa [Value.ownBlock] using hk] at e;exact e))
 have h2:=(World.ownsRow.stored (w:=w') h1 t v').1
 rw [List.length_set,List.map_set]
 exact h2):p:=h
theorem Dk {p:Prop} (h:p:=by
 exact ((h.b.gG hx (fun i hi e=>(h.br q hmem i e).1 hi) (fun i _ e=>Qw i e)).gG hE (fun i hi e=>h.bi i hi (by rw [show i=g from e];rfl)) (fun i _ e=>Mv i e)).mono (fun i _ e=>hsub i e)):p:=h
theorem Dn {p:Prop} (h:p:=by
 have hl:=lt_of_block (h.bx b hb).1
 refine ⟨hx.blk (h.bx b hb).1 (fun e=>(h.bx b hb).2 (hM _ hl e)),fun e=>?_⟩
 rcases ho _ e with e2|e2
 ·exact (h.bx b hb).2 e2
 omega):p:=h
theorem Dp {p:Prop} (h:p:=by
 have hmem:=List.getElem_mem ht
 rw [GV] at hmem
 refine h.change ((((((Ext.refl (At g) wr).setAt _ _).setAt _ _).setAt _ _).setAt _ _).setAt _ _) (fun i _ e=> .inr (.inr ⟨_,hmem,by rw [show i=g from e];rfl⟩)) (h.x.xB rD ht GV hk hp hok) (fun i hi=> .inl ?_)
 rcases hi with e|e|⟨q,hq,e⟩
 ·exact .inl e
 ·exact .inr (.inl e)
 rcases List.mem_or_eq_of_mem_set hq with hq|rfl
 ·exact .inr (.inr ⟨q,hq,e⟩)
 exact .inr (.inr ⟨_,hmem,e⟩)):p:=h
theorem Dq {p:Prop} (h:p:=by
 have hmem:=List.getElem_mem ht
 rw [hq] at hmem
 refine h.change (M:=fun k=>q.2.ownBlock=some k∨k=g) ((hx.mono (fun i _ e=> .inl e)).trans (((Ext.refl (At g) w').setAt t v').mono (fun i _ e=> .inr e))) (fun i _ e=>?_) (h.x.Uq hN ht hq hx hown hok hv) (fun i hi=>?_)
 ·rcases e with e|rfl
  ·exact .inr (.inr ⟨q,hmem,e⟩)
  exact .inr (.inl rfl)
 rcases hi with e|e|⟨p,hp,e⟩
 ·exact .inl (.inl e)
 ·exact .inl (.inr (.inl e))
 rcases List.mem_or_eq_of_mem_set hp with hp|rfl
 ·exact .inl (.inr (.inr ⟨p,hp,e⟩))
 rcases hv with hv|hv
 ·exact .inl (.inr (.inr ⟨q,hmem,by rw [←hv];exact e⟩))
 exact .inr (hv i e)):p:=h
theorem Dv {p:Prop} (h:p:=by
 intro i' h'
 rw [hres]
 have h2:i' < RL.length:=by simpa using h'
 unfold Nt
 rw [Jo YQ,List.getElem_set]
 by_cases e:n=i'
 ·rw [if_pos e,if_pos e.symm]
  show L.map fJ=_
  rw [Yj,←Tm,Ur,Sj,HI]
 rw [if_neg e,if_neg (fun h=>e h.symm)]
 exact HS.rows i' h2):p:=h
theorem Du {p:Prop} (h:p:=by
 rw [hres]
 show IB.map Prod.fst=(S.bnd.set n (bL (gm t) (dA S.bnd n))).map (bJ S.w)
 rw [ZW,List.map_set,List.map_set,HS.bnd]):p:=h
theorem rY {p:Prop} (h:p:=by
 by_cases e2:j < t
 ·rw [if_pos (by omega),if_pos e2]
 rw [if_neg (by omega),if_neg e2]):p:=h
theorem rZ {p:Prop} (h:p:=by
 clear h1
 go_wp2_with fail
 go_roundw
 case rel=>exact ⟨t+1,lim,LBt,ic,HKK,by omega,hR2,HSK⟩
 case measure=>simp [intOf];omega):p:=h
theorem DD {p:Prop} (h:p:=by
 rcases hh with ⟨h1,rfl⟩|⟨h1,rfl⟩
 ·exact rZ
 exact rZ):p:=h
theorem DR {p:Prop} (h:p:=by
 go_roundw
 case rel=>exact ⟨j+1,Sk,by omega,aa (by rw [YV];exact ho9),lg⟩
 case measure=>simp [intOf];omega):p:=h
theorem DN {p:Prop} (h:p:=by
 exact ⟨0,rfl,Nat.zero_le _,aa (by simpa using World.ownsRow_nil _ _ _ _),hx⟩):p:=h
theorem si {p:Prop} (h:p:=by
 exact ⟨0,rfl,Nat.zero_le _,Ext.refl _ _,aa (fun j _ hj=>absurd hj (Nat.not_lt_zero _))⟩):p:=h
theorem yF {p:Prop} (h:p:=by
 exact ⟨rfl,(HX.af ji).aJ jR (fun i hi e=>by unfold At at e;omega)⟩):p:=h
theorem DT {p:Prop} (h:p:=by
 have hC:=ji.blk HC ax
 have cC:=cellOf hC
 have fC:=aH hC
 have jR:Ext (At (W.heap.size+1)) w2 (((w2.setCell ⟨W.heap.size+1,0,none⟩ (.int .i64 0)).setCell ⟨W.heap.size+1,1,none⟩ (.slice none 0 0)).setCell ⟨W.heap.size+1,2,none⟩ (.slice none 0 0)):=jw _ _ _ _ _
 have hbF:=(az (j:=2) (u:= .slice none 0 0) (az (j:=1) (u:= .slice none 0 0) (az (j:=0) (u:= .int .i64 0) hC))).trans rfl
 go_wp2_with fail
 generalize World.setCell (World.setCell (World.setCell w2 _ _) _ _) _ _=WF at*
 have cF:=cellOf hbF
 refine aW rfl ?_
 simp [results,Tryz.results23,go_sem,cF]
 exact yF):p:=h
theorem DU {p:Prop} (h:p:=by
 have hC:=ji.blk HC ax
 have cC:=cellOf hC
 have fC:=aH hC
 have jR:Ext (At (W.heap.size+1)) w2 (((w2.setCell ⟨W.heap.size+1,0,none⟩ (.int .i64 0)).setCell ⟨W.heap.size+1,1,none⟩ (.slice none 0 0)).setCell ⟨W.heap.size+1,2,none⟩ (.slice none 0 0)):=jw _ _ _ _ _
 have hbF:=(az (j:=2) (u:= .slice none 0 0) (az (j:=1) (u:= .slice none 0 0) (az (j:=0) (u:= .int .i64 0) hC))).trans rfl
 go_wp2_with fail
 generalize World.setCell (World.setCell (World.setCell w2 _ _) _ _) _ _=WF at*
 have cF:=cellOf hbF
 refine aW rfl ?_
 simp [results,Tryz.results25,go_sem,cF]
 exact yF):p:=h
theorem DX {p:Prop} (h:p:=by
 have hC:=ji.blk HC ax
 have cC:=cellOf hC
 have fC:=aH hC
 have jR:Ext (At (W.heap.size+1)) w2 (((w2.setCell ⟨W.heap.size+1,0,none⟩ (.int .i64 0)).setCell ⟨W.heap.size+1,1,none⟩ (.slice none 0 0)).setCell ⟨W.heap.size+1,2,none⟩ (.slice none 0 0)):=jw _ _ _ _ _
 have hbF:=(az (j:=2) (u:= .slice none 0 0) (az (j:=1) (u:= .slice none 0 0) (az (j:=0) (u:= .int .i64 0) hC))).trans rfl
 go_wp2_with fail
 generalize World.setCell (World.setCell (World.setCell w2 _ _) _ _) _ _=WF at*
 have cF:=cellOf hbF
 refine aW rfl ?_
 simp [results,Tryz.results13,go_sem,cF]
 exact yF):p:=h
theorem D8 {p:Prop} (h:p:=by
 rw [List.take_succ_eq_append_getElem hk,List.map_append,List.sum_append]
 simp):p:=h
theorem sM {p:Prop} (h:p:=by
 go_wp2_with fail
 go_ret
 exact aP (fun e=>by have:=e.n;have:=e.lb;omega) hx0):p:=h
theorem sK {p:Prop} (h:p:=by
 go_wp2_with fail
 go_ret
 exact aP (fun e=>by have:=e.w;omega) hx0):p:=h
theorem yh {p:Prop} (h:p:=by
 have Y3:=HE.aJ I6 (fun i hi e=>by have e2:i=bF:=e;have:=ML.out;omega)
 have hSF:=G8.raw.XP pO I6
 go_wp2_with fail
 go_meet
 exact ⟨bF,x1,y1,x2,y2,x3,z3,y3,rfl,rfl,ML,Y3,Zc,hSF.tr G8.ok⟩):p:=h
theorem iH {p:Prop} (h:p:=by
 go_simp;(try with_reducible rfl)):p:=h
theorem EO {p:Prop} (h:p:=by
 rw [show n*(i+1)+j - n=n*i+j by rw [Nat.mul_add];omega]
 rw [ih i j (by simpa using hi) hj];rfl):p:=h
theorem EQ {p:Prop} (h:p:=by
 obtain ⟨b,off,cap,h1,h2,h3,h4⟩:=h.at hi
 exact ⟨b,off,cap,h1,h2,h3,fun k hk=>(congrArg (fun n=>w.cell? ⟨b,off+n,none⟩) (show k=k*1+0 by omega)).trans (h4 k hk 0 _ (by decide) rfl)⟩):p:=h
theorem ES {p:Prop} (h:p:=by
 go_wp2_with fail
 go_ret
 exact ⟨⟨-1,rfl,⟨fun e=>absurd e (by decide),fun ⟨j,hj,e⟩=>absurd e (hm j hj (by omega))⟩⟩,hx⟩):p:=h
theorem ER {p:Prop} (h:p:=by
 rintro e1 w1 ⟨bb,rfl,hbb,hx1⟩
 cases bb with
 |true=>
  have qM:=aa (iG hbb)
  clear hbb
  go_wp2_with fail
  go_ret
  exact ⟨⟨k,rfl,⟨fun _=>⟨k,hlt,by have:=qM.out;rw [HP] at this;exact this⟩,fun _=>by omega⟩⟩,hx.af hx1⟩
 |false=>
  have qM:=aa (ig hbb)
  clear hbb
  go_wp2_with fail
  go_roundw
  case rel=>exact ⟨k+1,by omega,by go_num,hx.af hx1,aa (fun j hj hjk hbad=>by
   by_cases e:j=k
   ·subst e
    rw [←HP] at hbad
    exact qM hbad
   exact hm j hj (by omega) hbad)⟩
  case measure=>simp [intOf];omega):p:=h
theorem ET {p:Prop} (h:p:=by
 rintro e w1 ⟨⟨z,rfl,hz⟩,hx⟩
 have HZ:=aa hz
 clear hz
 go_wp2_with fail
 go_ret
 exact ⟨_,rfl,⟨fun e=>HZ.1 (by simpa using e),fun e=>by simpa using HZ.2 e⟩,hx⟩):p:=h
theorem EU {p:Prop} (h:p:=by
 unfold dA
 cases e:S.bnd[i]? with
 |none=>exact Nat.two_pow_pos _
 |some m=>exact h.bnd m (List.mem_of_getElem? e)):p:=h
theorem tq {p:Prop} (h:p:=by
 exact ⟨_,_,rfl,(hm.set.ext hE (fun i _ e=> .inr (.inl e))).mono (fun i _ e=> .inl e),hm.ext.aJ hE (fun i hi e=>by unfold At at e;omega)⟩):p:=h
theorem yu {p:Prop} (h:p:=by
 exact ⟨0,_,_,Nat.zero_le _,rfl,hm0⟩):p:=h
theorem tC {p:Prop} (h:p:=by
 exact ⟨_,_,rfl,(hs3.ext (jV hxa (W.heap.size+2)) (fun i _ e=> .inr e)).mono (fun i _ e=> .inl e),gG hxa (by omega)⟩):p:=h
theorem tu {p:Prop} (h:p:=by
 rcases e with e|e
 ·exact e
 omega):p:=h
theorem yx {p:Prop} (h:p:=by
 rcases hb with hb|hb
 ·have:=HM.out b hb;omega
 omega):p:=h
theorem yC {p:Prop} (h:p:=by
 have h1:=h.big
 have hE:Ext (At D) wr ((wr.setCell ⟨D,0,none⟩ (.int .i64 (w:Int))).setCell ⟨D,1,none⟩ s2):=((Ext.refl (At D) _).setAt _ _).setAt _ _
 exact ⟨h.ext.aJ hE (fun i hi e=>by unfold At at e;omega),hE.blk h.bW (by unfold At;omega),hE.blk h.dQ (by unfold At;omega),hE.blk h.bV (by unfold At;omega),(az (j:=1) (az (j:=0) h.dB)).trans rfl,hs.ext hE (fun i _ e=> .inr (.inr e)),h1⟩):p:=h
theorem tH {p:Prop} (h:p:=by
 rcases hb with hb|rfl
 ·exact Nat.lt_of_lt_of_le (HM b hb) hx0.size
 exact zO):p:=h
theorem Fa {p:Prop} (h:p:=by
 have h:=sw _ _ _ _ W hs.raw ht.raw
 rw [show kW (bJ w m) (bJ w k)=decide (m=k) from by
  unfold kW bJ
  rw [decide_eq_decide]
  exact ⟨fun e=>Bj hs.hm ht.hm e.2,fun e=>by rw [e];exact ⟨rfl,rfl⟩⟩] at h
 exact h):p:=h
theorem Fb {p:Prop} (h:p:=by
 show (w.heap.modify b _)[b]? =_
 rw [Array.getElem?_eq_getElem (by simpa using hlt),Array.getElem_modify_self,h']
 rfl):p:=h
theorem yG {p:Prop} (h:p:=by
 exact ⟨0,Nat.zero_le _,rfl,aa (fun j _ _ h=>by omega),hx0⟩):p:=h
theorem tL {p:Prop} (h:p:=by
 exact ⟨rfl,by (repeat (first|(with_reducible exact Ext.refl _ _)|(with_reducible assumption)|(with_reducible refine Ext.drewN ?_ _)|(with_reducible refine Ext.drew ?_)|(with_reducible refine Ext.alloc ?_ _)))⟩):p:=h
theorem Fw {p:Prop} (h:p:=by
 rintro e2 w2 ⟨rfl,hx2⟩
 rw [h2]
 clear cB
 have cB:=cellOf (hx2.blk hB ax)
 go_wp2
 go_ret
 exact ⟨rfl,hxa.af hx2⟩):p:=h
theorem Fx {p:Prop} (h:p:=by
 rintro e2 w2 ⟨rfl,hx2⟩
 rw [h2]
 go_wp2
 go_ret
 exact ⟨rfl,hxa.af hx2⟩):p:=h
theorem Fy {p:Prop} (h:p:=by
 rintro e1 w1 ⟨rfl,hx1⟩
 rw [h1]
 go_wp2
 go_ret
 exact ⟨rfl,Ext.af (by (repeat (first|(with_reducible exact Ext.refl _ _)|(with_reducible assumption)|(with_reducible refine Ext.drewN ?_ _)|(with_reducible refine Ext.drew ?_)|(with_reducible refine Ext.alloc ?_ _)))) hx1⟩):p:=h
theorem Fz {p:Prop} (h:p:=by
 exact ⟨0,Nat.zero_le _,rfl,ji,hB2,aa (fun j _ hj=>absurd hj (Nat.not_lt_zero _))⟩):p:=h
theorem FB {p:Prop} (h:p:=by
 exact hE2.blk (hE.blk h.bW (hne _ (by omega))) (by unfold At;omega)):p:=h
theorem FC {p:Prop} (h:p:=by
 obtain ⟨h1,hE⟩:=h.s.app hp hown hg hv
 have hb:=h.big
 have hne:∀k,k≤X→¬v.ownBlock=some k:=fun k hk e=>by have:=(h.s.lt k e).1;omega
 have hE2:Ext (At X) w' (w'.setCell ⟨X,2,none⟩ v'):=(Ext.refl (At X) _).setAt _ _
 have hX:=hE.blk h.dU (hne X (Nat.le_refl _))
 refine ⟨⟨?_,?_,?_,?_,?_,?_,hb⟩,hX⟩
 ·refine (h.ext.aJ hE (fun i hi e=>?_)).aJ hE2 (fun i hi e=>by unfold At at e;omega)
  have:=(h.s.lt i e).1
  omega
 ·exact FB
 ·exact hE2.blk (hE.blk h.bV (hne _ (by omega))) (by unfold At;omega)
 ·exact (az (j:=2) hX).trans rfl
 ·refine (h.gen.ext hE (fun i _ e=>?_)).ext hE2 (fun i _ e=> .inr (.inr (.inl e)))
  have:=(h.s.lt i e).1
  exact .inr (.inr (.inr (by omega)))
 exact h1.ext hE2 (fun i hi e=>by unfold At at e;omega) (fun i e=> .inr (.inr e))):p:=h
theorem FD {p:Prop} (h:p:=by
 rcases e with e|e
 ·exact .inl e
 have:=(TI.lt i e).1
 exact .inr (.inr (.inr (by omega)))):p:=h
theorem FE {p:Prop} (h:p:=by
 have hE:Ext (At (W.heap.size+1)) wr ((wr.setCell ⟨W.heap.size+1,0,none⟩ (.int .i64 (w:Int))).setCell ⟨W.heap.size+1,1,none⟩ s2):=((Ext.refl (At (W.heap.size+1)) _).setAt _ _).setAt _ _
 exact ⟨h.ext.aJ hE (fun i hi e=>by unfold At at e;omega),hE.blk h.bW (by unfold At;omega),(az (j:=1) (az (j:=0) h.dQ)).trans rfl,hE.blk h.bV (by unfold At;omega),hs.ext hE (fun i _ e=> .inr (.inl e))⟩):p:=h
theorem FH {p:Prop} (h:p:=by
 have c:=cellOf (hx.blk h.bW ax)
 have d:=cellOf (hx.blk h.dQ ax)
 exact ⟨c 0,c 1,c 2,d 0,d 1,hx⟩):p:=h
theorem FI {p:Prop} (h:p:=by
 refine ⟨_,_,rfl,aa ?_,gX.ext.aJ hE (fun i hi e=>by unfold At at e;omega)⟩
 rw [←hk.2,hfix]
 exact (gX.set.ext hE (fun i _ e=> .inr (.inr e))).mono (fun i _ e=> .inl e)):p:=h
theorem FJ {p:Prop} (h:p:=by
 refine ⟨h1,?_⟩
 rcases h2 with h2|⟨g,cap,cur,hv2,hb2,hg,hr⟩
 ·exact .inl h2
 refine .inr ⟨g,cap,cur,hv2,hb2,(hE.block g (lt_of_block hg) (fun e=>hv ?_)).trans hg,hr⟩
 cases e
 rw [hv2];rfl):p:=h
theorem FK {p:Prop} (h:p:=by
 have hb:=h.big
 have hE:Ext (At S) wr ((wr.setCell ⟨S,0,none⟩ u0).setCell ⟨S,1,none⟩ u1):=((Ext.refl (At S) wr).setAt _ _).setAt _ _
 refine ⟨h.ext.aJ hE (fun i hi e=>by unfold At at e;omega),hE.blk h.bW (by unfold At;omega),hE.blk h.lN (by unfold At;omega),hE.blk h.jl (by unfold At;omega),h.kill.ext hE (fun i _ e=>by cases e;exact .inl (.inl ZH)),?_,hb⟩
 obtain ⟨h1,h2⟩:=h.own
 exact FJ):p:=h
theorem FL {p:Prop} (h:p:=by
 have hb:=h.big
 have hE:Ext (At T) wr ((wr.setCell ⟨T,2,none⟩ (.int .i64 (w:Int))).setCell ⟨T,3,none⟩ VH):=((Ext.refl (At T) wr).setAt _ _).setAt _ _
 exact ⟨h.ext.aJ hE (fun i hi e=>by unfold At at e;omega),hE.blk h.bW (by unfold At;omega),hE.blk h.lN (by unfold At;omega),(az (j:=3) (az (j:=2) h.jl)).trans rfl,hs.ext hE (fun i _ e=> .inl (.inr (.inr e))),dG h.own hE (fun i hi e=>by unfold At at e;omega),hb⟩):p:=h
theorem FM {p:Prop} (h:p:=by
 have hE:Ext (fun k=>sc.ownBlock=some k) wr w':=((Ext.refl _ wr).alloc o).grown hg (fun k hk _=>hk)
 have hb:=h.big
 have hne:∀k,k≤T→¬sc.ownBlock=some k:=fun k hk e=>by have:=(h.kv k e).1;omega
 have hE2:Ext (At T) w' (w'.setCell ⟨T,4,none⟩ Ob):=(Ext.refl (At T) _).setAt _ _
 have hT:=hE.blk h.jl (hne T (Nat.le_refl _))
 refine ⟨⟨?_,?_,?_,?_,?_,?_,hb⟩,hT⟩
 ·refine (h.ext.aJ hE (fun i hi e=>?_)).aJ hE2 (fun i hi e=>by unfold At at e;omega)
  have:=(h.kv i e).1
  omega
 ·exact FB
 ·exact hE2.blk (hE.blk h.lN (hne _ (by omega))) (by unfold At;omega)
 ·exact (az (j:=4) hT).trans rfl
 ·exact (RD hg hv h.kill).ext hE2 (fun i _ e=> .inl (.inr (.inr e)))
 have e1:(l++[(a,b)]).length=l.length+1:=by simp
 rw [e1,←FN]
 exact dG hown hE2 (fun i hi e=>by unfold At at e;omega)):p:=h
theorem FO {p:Prop} (h:p:=by
 have hE:=pF w7 D (.int .i64 (w:Int)) sg (.int .i64 (w:Int)) sk (.slice none 0 0)
 exact ⟨hx.aJ hE (fun i hi e=>by unfold At at e;omega),hE.blk hA (by unfold At;omega),hE.blk hC (by unfold At;omega),bY.qy ⟨_,rfl,hI⟩ _ _ _ _ _,(hs.XW hL).mono (fun i hi e=>by
  unfold Lo
  rcases e with (e|e|e)|e
  ·have:=hM i e;omega
  ·omega
  ·omega
  cases e),World.ownsRow_nil _ _ _ _,hD⟩):p:=h
theorem FP {p:Prop} (h:p:=by
 refine (h.ext.aJ hE (fun i hi e=>?_)).aJ hE2 (fun i hi e=>by unfold At at e;omega)
 have:=hgt i e
 omega):p:=h
theorem FQ {p:Prop} (h:p:=by
 rcases hb with hb|rfl
 ·exact Nat.lt_of_lt_of_le (HM b hb) hm.ext.size
 exact lt_of_block hm.r2.2.1.1):p:=h
theorem ko {p:Prop} (h:p:=by
 go_wp2
 go_ret
 exact ⟨rfl,rfl⟩):p:=h
theorem nG {p:Prop} (h:p:=by
 go_wp2
 go_ret
 exact tL):p:=h
theorem yH {p:Prop} (h:p:=by
 refine ⟨h1,?_⟩
 rcases h2 with h2|⟨g,cap,cur,hv,hb,hg,hr⟩
 ·exact .inl h2
 exact .inr ⟨g,cap,cur,hv,hb,(hx.block g (lt_of_block hg) (hM g hb)).trans hg,hr⟩):p:=h
theorem FR {p:Prop} (h:p:=by
 rw [←HST] at hput
 have Qy:=aa hput
 clear hput
 go_roundw
 case rel=>exact ⟨k+1,by omega,HKK,P6,Qy⟩
 case measure=>simp [intOf];omega):p:=h
theorem yJ {p:Prop} (h:p:=by
 refine hHc 6 fun K hK=>?_
 ((obtain ⟨hb1,hb2⟩:=hJ.bW _ _ rfl);(have cS:=cellOf hb2);(have fS:=aH hb2);(clear hb1 hb2);go_simp;(clear cS fS))
 refine uK hK tK ?_
 clear hK K hHeld
 intro hHeld
 replace hJ:=hJ.K3 k1 k2 (.int .i64 (t.w:Int)) (.slice BX (nw t.w) BZ) (.slice SA (aI t t.w t.copies.length).length SB)
 generalize World.setCell (World.setCell (World.setCell v4 _ _) _ _) _ _=v5 at*
 refine hHc 7 fun K hK=>?_
 ((obtain ⟨hb1,hb2⟩:=hJ.dQ _ _ rfl);(have cS:=cellOf hb2);(have fS:=aH hb2);(clear hb1 hb2);go_simp;(clear cS fS))
 refine uK hK tK ?_
 clear hK K hHeld
 intro hHeld
 replace hJ:=hJ.K4 k1 k2 (.int .i64 (t.w:Int)) (.slice pY (nw t.w) cg2) (.slice SC (aI u t.w u.copies.length).length SE)
 exact Fj):p:=h
theorem yK {p:Prop} (h:p:=by
 refine hHc 3 fun K hK=>?_
 (go_simp;go_at_call 114;(with_reducible refine (wO u t.w _ _ _ _ HU.out (VI.out.aj hJ.ext)).mono ?_);(rintro e2 v4 ⟨pY,cg2,SC,SE,rfl,hs2,aF⟩);go_simp)
 refine uK hK fQ ?_
 clear hK K hHeld
 intro hHeld
 replace hJ:=hJ.call2 k1 k2 (jG _ _ _ _ _) aF hs2
 replace k2:=hJ.2
 replace hJ:=hJ.1
 clear aF hs2
 exact yJ):p:=h
theorem FT {p:Prop} (h:p:=by
 refine hHc 1 fun K hK=>?_
 (go_simp;go_at_call 114;(with_reducible refine (vX t _ _ _ _ (WT.out.aj hJ.ext)).mono ?_);(rintro e1 v3 ⟨BX,BZ,SA,SB,rfl,hs1,aF⟩);go_simp)
 refine uK hK fQ ?_
 clear hK K hHeld
 intro hHeld
 replace hJ:=hJ.vP k1 k2 (jG _ _ _ _ _) aF hs1 hs1.kv
 replace k1:=hJ.2
 replace hJ:=hJ.1
 clear aF hs1
 exact yK):p:=h
theorem FU {p:Prop} (h:p:=by
 refine hHc 4 fun K hK=>?_
 go_simp
 refine uK hK dw ?_
 clear hK K hHeld
 intro hHeld
 replace hJ:=hJ.lm k1 k2 #[.int .i64 0,.slice none 0 0,.slice none 0 0]
 generalize World.alloc v3 _=v4 at*
 generalize v3.heap.size=DA at*
 have Oa:=(hJ.bW _ _ rfl).1
 exact yJ):p:=h
theorem FV {p:Prop} (h:p:=by
 refine aN (i:=3) (j:=4) (by kernel_rfl) (aD.mk rfl rfl (fun K hK=>?_)) (aD.mk rfl rfl (fun K hK=>?_))
 ·(go_simp;go_at_call 114;(with_reducible refine (wO u t.w _ _ _ _ HU.out (VI.out.aj hJ.ext)).mono ?_);(rintro e2 v3 ⟨pY,cg2,SC,SE,rfl,hs2,aF⟩);go_simp)
  refine uK hK fQ ?_
  clear hK K hHeld
  intro hHeld
  replace hJ:=hJ.call2 k1 k2 (jG _ _ _ _ _) aF hs2
  replace k2:=hJ.2
  replace hJ:=hJ.1
  clear aF hs2
  exact FU
 go_simp
 refine uK hK dw ?_
 clear hK K hHeld
 intro hHeld
 replace hJ:=hJ.lm k1 k2 #[.int .i64 0,.slice none 0 0,.slice none 0 0]
 generalize World.alloc v2 _=v3 at*
 generalize v2.heap.size=DA at*
 have Oa:=(hJ.bW _ _ rfl).1
 exact yK):p:=h
theorem FW {p:Prop} (h:p:=by
 refine hHc 5 fun K hK=>?_
 go_simp
 refine uK hK dw ?_
 clear hK K hHeld
 intro hHeld
 replace hJ:=hJ.lu k1 k2 #[.int .i64 0,.slice none 0 0,.slice none 0 0]
 generalize World.alloc v3 _=v4 at*
 generalize v3.heap.size=DB at*
 have hDB:=(hJ.dQ _ _ rfl).1
 exact yJ):p:=h
theorem FX {p:Prop} (h:p:=by
 refine aN (i:=3) (j:=5) (by kernel_rfl) (aD.mk rfl rfl (fun K hK=>?_)) (aD.mk rfl rfl (fun K hK=>?_))
 ·(go_simp;go_at_call 114;(with_reducible refine (wO u t.w _ _ _ _ HU.out (VI.out.aj hJ.ext)).mono ?_);(rintro e2 v3 ⟨pY,cg2,SC,SE,rfl,hs2,aF⟩);go_simp)
  refine uK hK fQ ?_
  clear hK K hHeld
  intro hHeld
  replace hJ:=hJ.call2 k1 k2 (jG _ _ _ _ _) aF hs2
  replace k2:=hJ.2
  replace hJ:=hJ.1
  clear aF hs2
  exact FW
 go_simp
 refine uK hK dw ?_
 clear hK K hHeld
 intro hHeld
 replace hJ:=hJ.lu k1 k2 #[.int .i64 0,.slice none 0 0,.slice none 0 0]
 generalize World.alloc v2 _=v3 at*
 generalize v2.heap.size=DB at*
 have hDB:=(hJ.dQ _ _ rfl).1
 exact yK):p:=h
theorem FY {p:Prop} (h:p:=by
 have hlB:W.heap.size+1 < w1.heap.size:=lt_of_block HB.out
 refine uW (fun w'=>Ext No w1 w') aS fun hHeld=>?_
 have hJ:=lc.start (fun _ _=>True) (fun _ _=>True) 131 ((Ext.refl No w1).drew)
 have k1:=qh
 have k2:=qh
 generalize w1.drew=v0 at*
 refine uO [0,2] ?_
 refine uT ?_ (hy:=Ff)
 refine uT ?_ (hy:=Fg)
 refine uZ ?_
 refine gp (i:=1) (j:=4) (k:=5) (by kernel_rfl) (aD.mk rfl rfl (fun K hK=>?_)) (aD.mk rfl rfl (fun K hK=>?_)) (aD.mk rfl rfl (fun K hK=>?_))
 ·(go_simp;go_at_call 114;(with_reducible refine (vX t _ _ _ _ (WT.out.aj hJ.ext)).mono ?_);(rintro e1 v1 ⟨BX,BZ,SA,SB,rfl,hs1,aF⟩);go_simp)
  refine uK hK fQ ?_
  clear hK K hHeld
  intro hHeld
  replace hJ:=hJ.vP k1 k2 (jG _ _ _ _ _) aF hs1 hs1.kv
  replace k1:=hJ.2
  replace hJ:=hJ.1
  clear aF hs1
  refine gp (i:=3) (j:=4) (k:=5) (by kernel_rfl) (aD.mk rfl rfl (fun K hK=>?_)) (aD.mk rfl rfl (fun K hK=>?_)) (aD.mk rfl rfl (fun K hK=>?_))
  ·(go_simp;go_at_call 114;(with_reducible refine (wO u t.w _ _ _ _ HU.out (VI.out.aj hJ.ext)).mono ?_);(rintro e2 v2 ⟨pY,cg2,SC,SE,rfl,hs2,aF⟩);go_simp)
   refine uK hK fQ ?_
   clear hK K hHeld
   intro hHeld
   replace hJ:=hJ.call2 k1 k2 (jG _ _ _ _ _) aF hs2
   replace k2:=hJ.2
   replace hJ:=hJ.1
   clear aF hs2
   refine aN (i:=4) (j:=5) (by kernel_rfl) (aD.mk rfl rfl (fun K hK=>?_)) (aD.mk rfl rfl (fun K hK=>?_))
   ·go_simp
    refine uK hK dw ?_
    clear hK K hHeld
    intro hHeld
    replace hJ:=hJ.lm k1 k2 #[.int .i64 0,.slice none 0 0,.slice none 0 0]
    generalize World.alloc v2 _=v3 at*
    generalize v2.heap.size=DA at*
    have Oa:=(hJ.bW _ _ rfl).1
    exact FW
   go_simp
   refine uK hK dw ?_
   clear hK K hHeld
   intro hHeld
   replace hJ:=hJ.lu k1 k2 #[.int .i64 0,.slice none 0 0,.slice none 0 0]
   generalize World.alloc v2 _=v3 at*
   generalize v2.heap.size=DB at*
   have hDB:=(hJ.dQ _ _ rfl).1
   exact FU
  ·go_simp
   refine uK hK dw ?_
   clear hK K hHeld
   intro hHeld
   replace hJ:=hJ.lm k1 k2 #[.int .i64 0,.slice none 0 0,.slice none 0 0]
   generalize World.alloc v1 _=v2 at*
   generalize v1.heap.size=DA at*
   have Oa:=(hJ.bW _ _ rfl).1
   exact FX
  go_simp
  refine uK hK dw ?_
  clear hK K hHeld
  intro hHeld
  replace hJ:=hJ.lu k1 k2 #[.int .i64 0,.slice none 0 0,.slice none 0 0]
  generalize World.alloc v1 _=v2 at*
  generalize v1.heap.size=DB at*
  have hDB:=(hJ.dQ _ _ rfl).1
  exact FV
 ·go_simp
  refine uK hK dw ?_
  clear hK K hHeld
  intro hHeld
  replace hJ:=hJ.lm k1 k2 #[.int .i64 0,.slice none 0 0,.slice none 0 0]
  generalize World.alloc v0 _=v1 at*
  generalize v0.heap.size=DA at*
  have Oa:=(hJ.bW _ _ rfl).1
  refine aN (i:=1) (j:=5) (by kernel_rfl) (aD.mk rfl rfl (fun K hK=>?_)) (aD.mk rfl rfl (fun K hK=>?_))
  ·(go_simp;go_at_call 114;(with_reducible refine (vX t _ _ _ _ (WT.out.aj hJ.ext)).mono ?_);(rintro e1 v2 ⟨BX,BZ,SA,SB,rfl,hs1,aF⟩);go_simp)
   refine uK hK fQ ?_
   clear hK K hHeld
   intro hHeld
   replace hJ:=hJ.vP k1 k2 (jG _ _ _ _ _) aF hs1 hs1.kv
   replace k1:=hJ.2
   replace hJ:=hJ.1
   clear aF hs1
   exact FX
  go_simp
  refine uK hK dw ?_
  clear hK K hHeld
  intro hHeld
  replace hJ:=hJ.lu k1 k2 #[.int .i64 0,.slice none 0 0,.slice none 0 0]
  generalize World.alloc v1 _=v2 at*
  generalize v1.heap.size=DB at*
  have hDB:=(hJ.dQ _ _ rfl).1
  exact FT
 go_simp
 refine uK hK dw ?_
 clear hK K hHeld
 intro hHeld
 replace hJ:=hJ.lu k1 k2 #[.int .i64 0,.slice none 0 0,.slice none 0 0]
 generalize World.alloc v0 _=v1 at*
 generalize v0.heap.size=DB at*
 have hDB:=(hJ.dQ _ _ rfl).1
 refine aN (i:=1) (j:=4) (by kernel_rfl) (aD.mk rfl rfl (fun K hK=>?_)) (aD.mk rfl rfl (fun K hK=>?_))
 ·(go_simp;go_at_call 114;(with_reducible refine (vX t _ _ _ _ (WT.out.aj hJ.ext)).mono ?_);(rintro e1 v2 ⟨BX,BZ,SA,SB,rfl,hs1,aF⟩);go_simp)
  refine uK hK fQ ?_
  clear hK K hHeld
  intro hHeld
  replace hJ:=hJ.vP k1 k2 (jG _ _ _ _ _) aF hs1 hs1.kv
  replace k1:=hJ.2
  replace hJ:=hJ.1
  clear aF hs1
  exact FV
 go_simp
 refine uK hK dw ?_
 clear hK K hHeld
 intro hHeld
 replace hJ:=hJ.lm k1 k2 #[.int .i64 0,.slice none 0 0,.slice none 0 0]
 generalize World.alloc v1 _=v2 at*
 generalize v1.heap.size=DA at*
 have Oa:=(hJ.bW _ _ rfl).1
 exact FT):p:=h
theorem FZ {p:Prop} (h:p:=by
 cases e:t.copies[k]? with
 |none=>exact ih
 |some c=>
  simp only
  split
  ·obtain ⟨hk,rfl⟩:=List.getElem?_eq_some_iff.1 e
   obtain ⟨b,hb,hb2⟩:=jF (ho.inr k hk).2
   refine fZ ih ?_
   rw [hb]
   exact eZ (by omega)
  exact ih):p:=h
theorem F3 {p:Prop} (h:p:=by
 refine ⟨_,rfl,aa ?_,by omega,((Ext.refl _ _).alloc _).alloc _⟩
 have h:=fU.zero (W:=W.alloc (.cells #[.int .i64 (w:Int),.slice (some ⟨W.heap.size+1,0,none⟩) (nw w) (nw w)] 44)) (w:=w)
 simpa using h):p:=h
theorem F4 {p:Prop} (h:p:=by
 rcases e with e|e
 ·exact .inl (.inl e)
 rcases hv with hv|hv
 ·rw [hv] at e;exact .inl (.inr e)
 rw [hv,jJ] at e
 simp only [Option.some.injEq] at e
 exact .inr (by omega)):p:=h

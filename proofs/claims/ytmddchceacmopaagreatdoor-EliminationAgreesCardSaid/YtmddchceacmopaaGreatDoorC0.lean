
import Derived.Test.YtmddchceacmopaaGreatDoorRefI
set_option linter.unusedVariables false
set_option linter.unusedSimpArgs false
namespace Go.Proofs.YtmddchceacmopaaGreatDoor
open Go Go.RowKit
def xy (N:Nat→Prop) (W v:World) (A B:Option (Nat×Array Value)):Nat→Prop:=fun b=>(N b∧b < W.heap.size)∨(∃cs,A=some (b,cs))∨(∃cs,B=some (b,cs))∨v.heap.size≤b
structure kZ (N:Nat→Prop) (T:TypeId) (R1 R2:(Nat→Prop)→World→Prop) (O:Nat→Prop) (W v:World) (A B:Option (Nat×Array Value)) (c1 c2:Bool):Prop where
 ext:Ext No W v
 bW:∀D cs,A=some (D,cs)→W.heap.size≤D∧v.heap[D]? =some (.cells cs T (0,0))
 dQ:∀D cs,B=some (D,cs)→W.heap.size≤D∧v.heap[D]? =some (.cells cs T (0,0))
 ne:∀D cs D' cs',A=some (D,cs)→B=some (D',cs')→D≠D'
 r1:c1=true→R1 (xy N W v A B) v
 r2:c2=true→R2 (fun b=>xy N W v A B b∨O b) v
 o:∀b,O b→N b∧b < v.heap.size
 base:∀b,W.heap.size≤b→N b
section
theorem wh {P P' O:Nat→Prop} {n:Nat} (h:∀i,i < n→P' i→P i):∀i,i < n→(P' i∨O i)→(P i∨O i):=fun i hi e=>by
 rcases e with e|e
 ·exact .inl (h i hi e)
 exact .inr e
variable {N:Nat→Prop} {T:TypeId} {R1 R2:(Nat→Prop)→World→Prop} {O:Nat→Prop} {W v v':World} {A B:Option (Nat×Array Value)} {c1 c2:Bool} {cs:Array Value} {D:Nat}
theorem kZ.start (R1 R2:(Nat→Prop)→World→Prop) (T:TypeId) {v:World} (hn:∀b,W.heap.size≤b→N b) (hx:Ext No W v):kZ N T R1 R2 No W v none none false false:=
 ⟨hx,fun _ _ h=>(by cases h),fun _ _ h=>(by cases h),fun _ _ _ _ h=>(by cases h),fun h=>(by cases h),fun h=>(by cases h),fun _ x=>x.elim,hn⟩
theorem kZ.lm (h:kZ N T R1 R2 O W v none B c1 c2) (k1:dx R1) (k2:dx R2) (cs:Array Value):kZ N T R1 R2 O W (v.alloc (.cells cs T)) (some (v.heap.size,cs)) B c1 c2:=by
 have hO:∀i,i < v.heap.size→xy N W (v.alloc (.cells cs T)) (some (v.heap.size,cs)) B i→xy N W v none B i:=fun i hi e=>by
  rcases e with e|⟨_,e⟩|e|e
  ·exact .inl e
  ·simp only [Option.some.injEq,Prod.mk.injEq] at e;omega
  ·exact .inr (.inr (.inl e))
  rw [jJ] at e;omega
 refine ⟨h.ext.alloc _,fun D cs' e=>?_,fun D cs' e=>⟨(h.dQ D cs' e).1,ay (h.dQ D cs' e).2⟩,fun D cs' D' cs'' e e'=>?_,fun hc=>k1.ext (k1.mono (h.r1 hc) hO) ((Ext.refl No v).alloc _) (fun _ _ x=>x.elim),fun hc=>k2.ext (k2.mono (h.r2 hc) (wh hO)) ((Ext.refl No v).alloc _) (fun _ _ x=>x.elim),fun b hb=>⟨(h.o b hb).1,Nat.lt_of_lt_of_le (h.o b hb).2 ((Ext.refl No v).alloc _).size⟩,h.base⟩
 ·exact rR
 simp only [Option.some.injEq,Prod.mk.injEq] at e
 have:=lt_of_block (h.dQ D' cs'' e').2
 omega
theorem kZ.lu (h:kZ N T R1 R2 O W v A none c1 c2) (k1:dx R1) (k2:dx R2) (cs:Array Value):kZ N T R1 R2 O W (v.alloc (.cells cs T)) A (some (v.heap.size,cs)) c1 c2:=by
 have hO:∀i,i < v.heap.size→xy N W (v.alloc (.cells cs T)) A (some (v.heap.size,cs)) i→xy N W v A none i:=fun i hi e=>by
  rcases e with e|e|⟨_,e⟩|e
  ·exact .inl e
  ·exact .inr (.inl e)
  ·simp only [Option.some.injEq,Prod.mk.injEq] at e;omega
  rw [jJ] at e;omega
 refine ⟨h.ext.alloc _,fun D cs' e=>⟨(h.bW D cs' e).1,ay (h.bW D cs' e).2⟩,fun D cs' e=>?_,fun D cs' D' cs'' e e'=>?_,fun hc=>k1.ext (k1.mono (h.r1 hc) hO) ((Ext.refl No v).alloc _) (fun _ _ x=>x.elim),fun hc=>k2.ext (k2.mono (h.r2 hc) (wh hO)) ((Ext.refl No v).alloc _) (fun _ _ x=>x.elim),fun b hb=>⟨(h.o b hb).1,Nat.lt_of_lt_of_le (h.o b hb).2 ((Ext.refl No v).alloc _).size⟩,h.base⟩
 ·exact rR
 simp only [Option.some.injEq,Prod.mk.injEq] at e'
 have:=lt_of_block (h.bW D cs' e).2
 omega
theorem kZ.Mt {R:(Nat→Prop)→World→Prop} (k:dx R) (hx:Ext No v v') (h:R (xy N W v A B) v):R (xy N W v' A B) v':=
 k.ext (k.mono h (fun i hi e=>by
  rcases e with e|e|e|e
  ·exact .inl e
  ·exact .inr (.inl e)
  ·exact .inr (.inr (.inl e))
  have:=hx.size;omega)) hx (fun _ _ x=>x.elim)
theorem kZ.newR {R:(Nat→Prop)→World→Prop} (k:dx R) (h:kZ N T R1 R2 O W v A B c1 c2) (hx:Ext No v v') (hr:R (fun b=>N b∧b < v.heap.size) v'):R (xy N W v' A B) v':=
 k.mono hr (fun i hi e=>by
  have hbs:=h.base
  rcases e with e|⟨cs,e⟩|⟨cs,e⟩|e
  ·have:=h.ext.size;exact ⟨e.1,by omega⟩
  ·exact ⟨hbs i (h.bW i cs e).1,lt_of_block (h.bW i cs e).2⟩
  ·exact ⟨hbs i (h.dQ i cs e).1,lt_of_block (h.dQ i cs e).2⟩
  omega)
theorem kZ.vP {R:(Nat→Prop)→World→Prop} {O':Nat→Prop} (h:kZ N T R1 R2 O W v A B false false) (_:dx R1) (_:dx R2) (k1:dx R) (hx:Ext No v v') (hr:R (fun b=>N b∧b < v.heap.size) v') (ho:∀b,O' b→N b∧b < v'.heap.size):kZ N T R R2 O' W v' A B true false∧dx R:=
 ⟨⟨h.ext.af hx,fun D cs e=>⟨(h.bW D cs e).1,hx.blk (h.bW D cs e).2 ax⟩,fun D cs e=>⟨(h.dQ D cs e).1,hx.blk (h.dQ D cs e).2 ax⟩,h.ne,fun _=>h.newR k1 hx hr,fun hc=>(by cases hc),ho,h.base⟩,k1⟩
theorem kZ.call2 {R:(Nat→Prop)→World→Prop} (h:kZ N T R1 R2 O W v A B c1 false) (k1:dx R1) (_:dx R2) (k2:dx R) (hx:Ext No v v') (hr:R (fun b=>N b∧b < v.heap.size) v'):kZ N T R1 R O W v' A B c1 true∧dx R:=
 ⟨⟨h.ext.af hx,fun D cs e=>⟨(h.bW D cs e).1,hx.blk (h.bW D cs e).2 ax⟩,fun D cs e=>⟨(h.dQ D cs e).1,hx.blk (h.dQ D cs e).2 ax⟩,h.ne,fun hc=>kZ.Mt k1 hx (h.r1 hc),fun _=>k2.mono hr (fun i hi e=>by
  have hbs:=h.base
  rcases e with (e|⟨cs,e⟩|⟨cs,e⟩|e)|e
  ·have:=h.ext.size;exact ⟨e.1,by omega⟩
  ·exact ⟨hbs i (h.bW i cs e).1,lt_of_block (h.bW i cs e).2⟩
  ·exact ⟨hbs i (h.dQ i cs e).1,lt_of_block (h.dQ i cs e).2⟩
  ·omega
  exact h.o i e),fun b hb=>⟨(h.o b hb).1,Nat.lt_of_lt_of_le (h.o b hb).2 hx.size⟩,h.base⟩,k2⟩
def Ja (n w gen:Nat) (rs:List Nat) (sg so:Value) (M:Nat→Prop) (W:World):Prop:=gq w gen rs sg so M W∧∀b,so.ownBlock=some b→n≤b
theorem jf (n w gen:Nat) (rs:List Nat) (sg so:Value):dx (Ja n w gen rs sg so):=⟨fun h hx hm=>⟨h.1.ext hx hm,h.2⟩,fun h hm=>⟨h.1.mono hm,h.2⟩⟩
def QC (M:Nat→Prop) (T:TypeId) (n:Nat) (W wx:World) (w g1:Nat) (SQ:List Nat) (g2:Nat) (MB:List Nat) (s7 s8:Value):Prop:=
 ∃D1 D2 a1 c1 b1 d1 a2 c2 b2 d2,s7= .pointer (some ⟨D1,0,none⟩)∧s8= .pointer (some ⟨D2,0,none⟩)∧
  Hid (kZ (fun b=>M b∨n≤b) T (Ja n w g1 SQ (.slice a1 (nw w) c1) (.slice b1 SQ.length d1)) (Ja n w g2 MB (.slice a2 (nw w) c2) (.slice b2 MB.length d2)) (fun b=>(Value.slice b1 SQ.length d1).ownBlock=some b) W wx (some (D1,#[.int .i64 (w:Int),.slice a1 (nw w) c1,.slice b1 SQ.length d1])) (some (D2,#[.int .i64 (w:Int),.slice a2 (nw w) c2,.slice b2 MB.length d2])) true true)
theorem kZ.K3 {x y z:Value} (h:kZ N T R1 R2 O W v (some (D,#[x,y,z])) B c1 c2) (k1:dx R1) (k2:dx R2) (a b c:Value):
  kZ N T R1 R2 O W (((v.setCell ⟨D,0,none⟩ a).setCell ⟨D,1,none⟩ b).setCell ⟨D,2,none⟩ c) (some (D,#[a,b,c])) B c1 c2:=by
 obtain ⟨hD,hb⟩:=h.bW _ _ rfl
 have hE:=Nk v D a b c
 have hsz:(((v.setCell ⟨D,0,none⟩ a).setCell ⟨D,1,none⟩ b).setCell ⟨D,2,none⟩ c).heap.size=v.heap.size:=by simp [World.setCell]
 have hO:∀i,i < v.heap.size→xy N W (((v.setCell ⟨D,0,none⟩ a).setCell ⟨D,1,none⟩ b).setCell ⟨D,2,none⟩ c) (some (D,#[a,b,c])) B i→xy N W v (some (D,#[x,y,z])) B i:=fun i hi e=>by
  rcases e with e|⟨_,e⟩|e|e
  ·exact .inl e
  ·simp only [Option.some.injEq,Prod.mk.injEq] at e;exact .inr (.inl ⟨_,by rw [e.1]⟩)
  ·exact .inr (.inr (.inl e))
  omega
 refine ⟨h.ext.aJ hE (fun i hi e=>by unfold At at e;omega),fun D' cs' e=>?_,fun D' cs' e=>⟨(h.dQ D' cs' e).1,hE.blk (h.dQ D' cs' e).2 (fun e'=>h.ne _ _ _ _ rfl e e'.symm)⟩,fun D' cs' D'' cs'' e e'=>?_,fun hc=>k1.ext (k1.mono (h.r1 hc) hO) hE (fun i _ e=> .inr (.inl ⟨#[a,b,c],by rw [show i=D from e]⟩)),fun hc=>k2.ext (k2.mono (h.r2 hc) (wh hO)) hE (fun i _ e=> .inl (.inr (.inl ⟨#[a,b,c],by rw [show i=D from e]⟩))),fun b hb=>by rw [hsz];exact h.o b hb,h.base⟩
 ·exact rT
 simp only [Option.some.injEq,Prod.mk.injEq] at e
 obtain ⟨rfl,_⟩:=e
 exact h.ne _ _ _ _ rfl e'
theorem kZ.K4 {x y z:Value} (h:kZ N T R1 R2 O W v A (some (D,#[x,y,z])) c1 c2) (k1:dx R1) (k2:dx R2) (a b c:Value):
  kZ N T R1 R2 O W (((v.setCell ⟨D,0,none⟩ a).setCell ⟨D,1,none⟩ b).setCell ⟨D,2,none⟩ c) A (some (D,#[a,b,c])) c1 c2:=by
 obtain ⟨hD,hb⟩:=h.dQ _ _ rfl
 have hE:=Nk v D a b c
 have hsz:(((v.setCell ⟨D,0,none⟩ a).setCell ⟨D,1,none⟩ b).setCell ⟨D,2,none⟩ c).heap.size=v.heap.size:=by simp [World.setCell]
 have hO:∀i,i < v.heap.size→xy N W (((v.setCell ⟨D,0,none⟩ a).setCell ⟨D,1,none⟩ b).setCell ⟨D,2,none⟩ c) A (some (D,#[a,b,c])) i→xy N W v A (some (D,#[x,y,z])) i:=fun i hi e=>by
  rcases e with e|e|⟨_,e⟩|e
  ·exact .inl e
  ·exact .inr (.inl e)
  ·simp only [Option.some.injEq,Prod.mk.injEq] at e;exact .inr (.inr (.inl ⟨_,by rw [e.1]⟩))
  omega
 refine ⟨h.ext.aJ hE (fun i hi e=>by unfold At at e;omega),fun D' cs' e=>⟨(h.bW D' cs' e).1,hE.blk (h.bW D' cs' e).2 (fun e'=>h.ne _ _ _ _ e rfl e')⟩,fun D' cs' e=>?_,fun D' cs' D'' cs'' e e'=>?_,fun hc=>k1.ext (k1.mono (h.r1 hc) hO) hE (fun i _ e=> .inr (.inr (.inl ⟨#[a,b,c],by rw [show i=D from e]⟩))),fun hc=>k2.ext (k2.mono (h.r2 hc) (wh hO)) hE (fun i _ e=> .inl (.inr (.inr (.inl ⟨#[a,b,c],by rw [show i=D from e]⟩)))),fun b hb=>by rw [hsz];exact h.o b hb,h.base⟩
 ·exact rT
 simp only [Option.some.injEq,Prod.mk.injEq] at e'
 obtain ⟨rfl,_⟩:=e'
 exact h.ne _ _ _ _ e rfl
end
structure Cz (M:Nat→Prop) (W wr:World) (w g:Nat) (rs:List Nat) (D1:Nat) (sg so:Value) (R2:(Nat→Prop)→World→Prop):Prop where
 ext:Ext No W wr
 bV:wr.heap[W.heap.size+2]? =some (.cells #[.int .i64 0,.slice none 0 0,.int .i64 0,.slice none 0 0,.slice none 0 0] 47 (0,0))
 jC:wr.heap[D1]? =some (.cells #[.int .i64 (w:Int),sg,so] 121 (0,0))
 rows:gq w g rs sg so (fun b=>M b∨b=W.heap.size+2∨b=D1) wr
 r2:R2 (fun b=>M b∨b=W.heap.size+2∨b=D1∨so.ownBlock=some b) wr
 own:∀b,so.ownBlock=some b→W.heap.size≤b
 big:W.heap.size+2 < D1
section
variable {M:Nat→Prop} {W wr w':World} {w g g':Nat} {rs:List Nat} {D1:Nat} {sg SS so:Value} {R2:(Nat→Prop)→World→Prop}
theorem Cz.aC (h:Cz M W wr w g rs D1 sg so R2) (k:dx R2) (hx:Ext No wr w'):Cz M W w' w g rs D1 sg so R2:=
 ⟨h.ext.af hx,hx.blk h.bV ax,hx.blk h.jC ax,h.rows.aj hx,k.ext h.r2 hx (fun _ _ x=>x.elim),h.own,h.big⟩
theorem Cz.hM (hM:∀b,M b→b < W.heap.size) (h:Cz M W wr w g rs D1 sg so R2):∀b,((M b∨b=W.heap.size+2∨b=D1)∨so.ownBlock=some b)→b < wr.heap.size:=fun b hb=>by
 have h1:=lt_of_block h.jC
 have h2:=h.big
 rcases hb with (hb|rfl|rfl)|hb
 ·have:=hM b hb;have:=h.ext.size;omega
 ·omega
 ·exact h1
 exact h.rows.kv b hb
theorem Cz.KC (h:Cz M W wr w g rs D1 sg so R2) (k:dx R2) (hs:aG (fun b=>(M b∨b=W.heap.size+2∨b=D1)∨so.ownBlock=some b) wr SS w g'):
  Cz M W ((wr.setCell ⟨D1,0,none⟩ (.int .i64 (w:Int))).setCell ⟨D1,1,none⟩ SS) w g' rs D1 SS so R2:=by
 have hb:=h.big
 have hE:Ext (At D1) wr ((wr.setCell ⟨D1,0,none⟩ (.int .i64 (w:Int))).setCell ⟨D1,1,none⟩ SS):=((Ext.refl (At D1) wr).setAt _ _).setAt _ _
 have hr:=h.rows.ext hE (fun i _ e=> .inr (.inr e))
 exact ⟨h.ext.aJ hE (fun i hi e=>by unfold At at e;omega),hE.blk h.bV (by unfold At;omega),(az (j:=1) (az (j:=0) h.jC)).trans rfl,⟨hs.ext hE (fun i _ e=> .inl (.inr (.inr e))),hr.ex,hr.adA,hr.hm⟩,k.ext h.r2 hE (fun i _ e=> .inr (.inr (.inl e))),h.own,hb⟩
theorem Cz.Qc {gg c i m n:Nat} {sl:Value} (h:Cz M W wr w g rs D1 sg (.slice (some ⟨gg,0,none⟩) n c) R2) (hn:n=rs.length) (k:dx R2) (hi:i < rs.length) (hp:aG (fun b=>(M b∨b=W.heap.size+2∨b=D1)∨b=gg) wr sl w m):
  Cz M W ((wr.setCell ⟨gg,i*2,none⟩ (.int .i64 (w:Int))).setCell ⟨gg,i*2+1,none⟩ sl) w g (rs.set i m) D1 sg (.slice (some ⟨gg,0,none⟩) n c) R2:=by
 have hE:Ext (At gg) wr ((wr.setCell ⟨gg,i*2,none⟩ (.int .i64 (w:Int))).setCell ⟨gg,i*2+1,none⟩ sl):=((Ext.refl (At gg) wr).setAt _ _).setAt _ _
 have ho:=h.rows.adA gg rfl
 have h1:=h.own gg rfl
 exact ⟨h.ext.aJ hE (fun i hi e=>by unfold At at e;omega),hE.blk h.bV (fun e=>ho (.inr (.inl e.symm))),hE.blk h.jC (fun e=>ho (.inr (.inr e.symm))),h.rows.put hn hi hp,k.ext h.r2 hE (fun i _ e=> .inr (.inr (.inr (by rw [show i=gg from e];rfl)))),h.own,h.big⟩
theorem Cz.start {w1 V:World} {g2 D2:Nat} {MB:List Nat} {Vi Vj:Value} {cs:Array Value} (hM:∀b,M b→b < W.heap.size) (hx:Ext No W w1) (hC:w1.heap[W.heap.size+2]? =some (.cells #[.int .i64 0,.slice none 0 0,.int .i64 0,.slice none 0 0,.slice none 0 0] 47 (0,0)))
  (hJ:kZ (fun b=>M b∨W.heap.size≤b) 121 (Ja W.heap.size w g rs sg so) (Ja W.heap.size w g2 MB Vi Vj) (fun b=>so.ownBlock=some b) w1 V (some (D1,#[.int .i64 (w:Int),sg,so])) (some (D2,cs)) true true) (hcs:cs=#[.int .i64 (w:Int),Vi,Vj]):
  Cz M W V w g rs D1 sg so (Al D2 w g2 MB Vi Vj):=by
 subst hcs
 obtain ⟨a1,a2⟩:=hJ.bW _ _ rfl
 obtain ⟨b1,b2⟩:=hJ.dQ _ _ rfl
 have hr1:=hJ.r1 rfl
 have hr2:=hJ.r2 rfl
 have hne:=hJ.ne _ _ _ _ rfl rfl
 have hc:=lt_of_block hC
 have hs:=hx.size
 have hout:=hr1.1.adA
 refine ⟨hx.af hJ.ext,hJ.ext.blk hC ax,a2,hr1.1.mono (fun i hi e=>?_),⟨b2,fun e=>?_,hr2.1.mono (fun i hi e=>?_)⟩,hr1.2,by omega⟩
 ·rcases e with e|rfl|rfl
  ·exact .inl ⟨.inl e,Nat.lt_of_lt_of_le (hM i e) hs⟩
  ·exact .inl ⟨.inr (by omega),hc⟩
  exact .inr (.inl ⟨_,rfl⟩)
 ·rcases e with e|e|e|e
  ·have:=hM _ e;omega
  ·omega
  ·exact hne e.symm
  exact hout D2 e (.inr (.inr (.inl ⟨_,rfl⟩)))
 rcases e with e|rfl|rfl|e
 ·exact .inl (.inl ⟨.inl e,Nat.lt_of_lt_of_le (hM i e) hs⟩)
 ·exact .inl (.inl ⟨.inr (by omega),hc⟩)
 ·exact .inl (.inr (.inl ⟨_,rfl⟩))
 exact .inr e
end

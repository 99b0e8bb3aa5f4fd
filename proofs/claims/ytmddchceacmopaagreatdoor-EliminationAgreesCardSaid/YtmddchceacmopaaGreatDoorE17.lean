
import Derived.Test.YtmddchceacmopaaGreatDoorE16
set_option linter.unusedVariables false
set_option linter.unusedSimpArgs false
namespace Go.Proofs.YtmddchceacmopaaGreatDoor
open Go Go.RowKit
def Tg (_:Nat):Prop:=True
theorem Row.or {M M':Nat→Prop} {w:World} {s n:Nat} {sl:Value} {vs:List Value} (h1:Row M w s sl n vs) (h2:Row M' w s sl n vs):Row (fun b=>M b∨M' b) w s sl n vs:=by
 obtain ⟨e1,e2,a,cap,rfl,e4,h1⟩:=h1
 obtain ⟨-,-,a',cap',e5,-,h2⟩:=h2
 simp only [Value.slice.injEq,true_and] at e5
 obtain ⟨rfl,rfl⟩:=e5
 refine ⟨e1,e2,a,cap,rfl,e4,?_⟩
 rcases h1 with h1|⟨b,off,rfl,q1,q2,q3⟩
 ·exact .inl h1
 rcases h2 with h2|⟨b',off',e6,-,q4,-⟩
 ·exact .inl h2
 simp only [Option.some.injEq,Addr.mk.injEq,and_true] at e6
 obtain ⟨rfl,rfl⟩:=e6
 exact .inr ⟨b,off,rfl,q1,fun e=>e.elim q2 q4,q3⟩
theorem aG.or {M M':Nat→Prop} {w:World} {sl:Value} {x m:Nat} (h1:aG M w sl x m) (h2:aG M' w sl x m):aG (fun b=>M b∨M' b) w sl x m:=⟨⟨h1.words.row.or h2.words.row,h1.words.lt⟩,h1.hw,h1.hm⟩
theorem jw (w:World) (C:Nat) (a b c:Value):Ext (At C) w (((w.setCell ⟨C,0,none⟩ a).setCell ⟨C,1,none⟩ b).setCell ⟨C,2,none⟩ c):=(((Ext.refl (At C) w).setAt 0 a).setAt 1 b).setAt 2 c
theorem aaS {V w:World} {D:Nat} {a b c:Value} (h:Ext No V w) (hD:V.heap.size≤D):Ext No V (((w.setCell ⟨D,0,none⟩ a).setCell ⟨D,1,none⟩ b).setCell ⟨D,2,none⟩ c):=h.aJ (jw w D a b c) (fun i hi e=>by unfold At at e;omega)
theorem zh {β:Type} (K:EK β) (zp:β) (z:Value) (hz:z.cells.toList=K.cells zp) (hs:0 < K.s) {n base g:Nat} (hn:n≤maxLen) {w:World} (hg:w.heap[g]? =some (.cells (madeCells z.cells (n*K.s)) K.T (0,0))) (hb:base≤g):w.ownsRow base K.T K.s (.slice (some ⟨g,0,none⟩) n n) n ((List.replicate n zp).flatMap K.cells):=by
 refine ⟨by rw [lD];simp,.inr ⟨g,n,_,rfl,hb,hg,Nat.le_refl _,hn,by simp [madeCells],?_⟩⟩
 exact C8
theorem XD:(Tryz.prog.info? 40).map (fun i=>(i.zero,i.size,i.bytes))=some (some (.slice none 0 0),1,24):=by kernel_rfl
theorem XE:(Tryz.prog.info? 75).map (fun i=>(i.zero,i.size,i.bytes))=some (some (.agg #[.int .i64 0,.int .i64 0]),2,16):=by kernel_rfl
def zS:bC×Value:=(⟨0,[]⟩,.slice none 0 0)
def zL:LA×Value:=([],.slice none 0 0)
def zAr:Int×dS×Value×Value×Value:=(0,⟨⟨0,[]⟩,⟨0,[]⟩,[]⟩,.slice none 0 0,.slice none 0 0,.slice none 0 0)
theorem aaT (M:Nat→Prop) (w:World):kS.ok M w zS:=⟨Row.nil _ _ _ _ _ (by omega),fun n h=>by cases h⟩
theorem QZ {V wx:World} {D gB gI N x:Nat} (hN:N≤256) (hx:Ext No V wx) (hD:wx.heap[D]? =some (.cells #[.int .i64 (x:Int),.slice (some ⟨gB,0,none⟩) N N,.slice (some ⟨gI,0,none⟩) N N] 26 (0,0)))
  (hB:wx.heap[gB]? =some (.cells (madeCells #[.int .i64 0,.slice none 0 0] (N*2)) 44 (0,0))) (hI:wx.heap[gI]? =some (.cells (madeCells #[.slice none 0 0] N) 40 (0,0))) (n1:gB≠gI) (n2:gB≠D) (n3:gI≠D) (w1:V.heap.size≤gB) (w2:V.heap.size≤gI) (w3:V.heap.size≤D):
  CkM V wx D wx.heap.size x (.slice (some ⟨gB,0,none⟩) N N) (.slice (some ⟨gI,0,none⟩) N N) (List.replicate N zS) (List.replicate N zL):=by
 have hm:N≤maxLen:=by simp only [maxLen];omega
 have hoB:wx.ownsRow V.heap.size 44 2 (.slice (some ⟨gB,0,none⟩) N N) N ((List.replicate N zS).flatMap kS.cells):=zh kS zS (.agg #[.int .i64 0,.slice none 0 0]) rfl (by decide) hm hB w1
 have hoI:wx.ownsRow V.heap.size 40 1 (.slice (some ⟨gI,0,none⟩) N N) N ((List.replicate N zL).flatMap kL.cells):=zh kL zL (.slice none 0 0) rfl (by decide) hm (by rw [show N*kL.s=N from Nat.mul_one N];exact hI) w2
 have hrS:∀p∈List.replicate N zS,p=zS:=fun p hp=>List.eq_of_mem_replicate hp
 have hrL:∀p∈List.replicate N zL,p=zL:=fun p hp=>List.eq_of_mem_replicate hp
 refine ⟨hx,hD,⟨hx.size,Nat.le_refl _,⟨(by rw [List.length_replicate];exact hoB),(fun p hp=>(by rw [hrS p hp];exact aaT _ _))⟩,(by rw [List.length_replicate,←qX];exact hoI),(fun p hp=>(by rw [hrL p hp];exact cZ.nil _ _ _ _)),(fun k hk e=>n1 ?_),(fun p hp k hk=>(by rw [hrL p hp] at hk;cases hk)),(fun i j hi hj hij k hk=>(by rw [List.getElem_replicate] at hk;cases hk)),(fun k hk=>?_),(fun k hk=>?_),(fun p hp k hk=>(by rw [hrL p hp] at hk;cases hk))⟩,w3,(fun e=>n2 (by simpa [Value.ownBlock] using e)),(fun e=>n3 (by simpa [Value.ownBlock] using e)),(fun p hp=>(by rw [hrL p hp];intro e;cases e))⟩
 ·simp only [Value.ownBlock,Option.some.injEq] at hk e
  omega
 ·rw [←Option.some.inj hk];exact lt_of_block hB
 rw [←Option.some.inj hk];exact lt_of_block hI
theorem XF (M:Nat→Prop) (w:World):kA.ok M w zAr:=⟨⟨Row.nil _ _ _ _ _ (by omega),fun n h=>by cases h⟩,⟨Row.nil _ _ _ _ _ (by omega),fun n h=>by cases h⟩,Row.nil _ _ _ _ _ (by omega)⟩
theorem Ay {α β:Type} (f:α→β) (g:Nat→Option β) (l:List α) (n:Nat) (p:α) (h:∀t,t < n→(l[t]?).map f=g t) (hn:n < l.length) (hp:some (f p)=g n):∀t,t < n+1→((l.set n p)[t]?).map f=g t:=by
 intro t ht
 rw [List.getElem?_set]
 by_cases e:n=t
 ·subst e
  rw [if_pos rfl,if_pos hn]
  exact hp
 rw [if_neg e]
 exact h t (by omega)
theorem Ji {α β:Type} (f:α→β) (l:List α) (l2:List β) (m:Nat) (h:∀t,t < m→(l[t]?).map f=l2[t]?) (h1:l.length=m) (h2:l2.length=m):l.map f=l2:=by
 refine List.ext_getElem? (fun t=>?_)
 rw [List.getElem?_map]
 rcases Nat.lt_or_ge t m with e|e
 ·exact h t e
 rw [List.getElem?_eq_none (by omega),List.getElem?_eq_none (by omega)]
 rfl
theorem Lj (l:List (Int×Int)):∀u∈iZ l,u.oneCell'=true:=fun u hu=>by
 obtain ⟨p,_,hp⟩:=List.mem_flatMap.1 hu
 simp only [Jb,List.mem_cons,List.not_mem_nil,or_false] at hp
 rcases hp with rfl|rfl<;>rfl
theorem Un {M:Nat→Prop} {W:World} {t:cK} {w:Nat} {sg sk sc:Value} (hw:t.w=w) (hg:aG M W sg w t.gen) (hk:aG M W sk w t.kill) (hc:fo M W sc t.copies):bN M W sg sk sc (bM t):=by
 subst hw;exact ⟨hg.words,hk.words,hc⟩
theorem jk.xA {w:World} {base lim:Nat} {vb vi:Value} {LB:LS} {RL:fe} {L:LA} {g c t i N:Nat} (h:jk w base lim vb vi LB RL) (ht:t < RL.length) (GV:RL[t]=(L,.slice (some ⟨g,0,none⟩) N c)) (hN:N=L.length) (hi:i < L.length):
  (∃u0 u1 u2 u3 u4 u5,w.cell? ⟨g,i*6,none⟩=some u0∧w.cell? ⟨g,i*6+1,none⟩=some u1∧w.cell? ⟨g,i*6+2,none⟩=some u2∧w.cell? ⟨g,i*6+3,none⟩=some u3∧w.cell? ⟨g,i*6+4,none⟩=some u4∧w.cell? ⟨g,i*6+5,none⟩=some u5)∧w.frozen? ⟨g,i*6,none⟩=false∧w.frozen? ⟨g,i*6+1,none⟩=false∧w.frozen? ⟨g,i*6+2,none⟩=false∧w.frozen? ⟨g,i*6+3,none⟩=false∧w.frozen? ⟨g,i*6+4,none⟩=false∧w.frozen? ⟨g,i*6+5,none⟩=false:=by
 subst hN
 have hmem:=List.getElem_mem ht
 rw [GV] at hmem
 have hr:cZ kA (dW vb vi RL lim base) w base (.slice (some ⟨g,0,none⟩) L.length c) L:=h.r _ hmem
 exact Db
theorem A9:∀l:List (Int×Int),(iZ l).length=l.length*2
 |[]=>rfl
 |p::l=>by
  have h:=A9 l
  simp only [iZ,List.flatMap_cons,List.length_append,Jb,List.length_cons,List.length_nil] at h ⊢
  omega
theorem VR {V w:World} {D:Nat} {a b c d e:Value} (h:Ext No V w) (hD:V.heap.size≤D):Ext No V (((((w.setCell ⟨D,0,none⟩ a).setCell ⟨D,1,none⟩ b).setCell ⟨D,2,none⟩ c).setCell ⟨D,3,none⟩ d).setCell ⟨D,4,none⟩ e):=h.aJ ((((((Ext.refl (At D) w).setAt 0 a).setAt 1 b).setAt 2 c).setAt 3 d).setAt 4 e) (fun i hi e=>by unfold At at e;omega)
theorem CkM.abg {V wr:World} {D lim x:Nat} {vb:Value} {LB:LS} {RL:fe} {g c t i:Nat} {gI cI NI:Nat} {L:LA} {p:Int×dS×Value×Value×Value} (h:CkM V wr D lim x vb (.slice (some ⟨gI,0,none⟩) NI cI) LB RL) (rD:NI=RL.length) (ht:t < RL.length) (GV:RL[t]=(L,.slice (some ⟨g,0,none⟩) L.length c)) (hi:i < L.length)
  (hp:kA.ok (dW vb (.slice (some ⟨gI,0,none⟩) NI cI) RL lim V.heap.size) wr p):
  CkM V ((((((wr.setCell ⟨g,i*6,none⟩ (.int .i64 p.1)).setCell ⟨g,i*6+1,none⟩ (.int .i64 p.2.1.gen.width)).setCell ⟨g,i*6+2,none⟩ p.2.2.1).setCell ⟨g,i*6+3,none⟩ (.int .i64 p.2.1.kill.width)).setCell ⟨g,i*6+4,none⟩ p.2.2.2.1).setCell ⟨g,i*6+5,none⟩ p.2.2.2.2) D lim x vb (.slice (some ⟨gI,0,none⟩) NI cI) LB (RL.set t (L.set i p,.slice (some ⟨g,0,none⟩) L.length c)):=by
 have hmem:=List.getElem_mem ht
 rw [GV] at hmem
 have hr:cZ kA (dW vb (.slice (some ⟨gI,0,none⟩) NI cI) RL lim V.heap.size) wr V.heap.size (.slice (some ⟨g,0,none⟩) L.length c) L:=h.x.r _ hmem
 have h1:=hr.QF hi (p:=p) (kA.mono hp (fun j _ e=>by
  rcases e with e|e
  ·exact e
  exact .inr (.inr (.inr (.inl ⟨_,hmem,by rw [e];rfl⟩)))))
 refine h.Hq rD ht GV ((((((Ext.refl (At g) wr).setAt _ _).setAt _ _).setAt _ _).setAt _ _).setAt _ _ |>.setAt _ _) h1.own (fun r hr2=>?_)
 rcases List.mem_or_eq_of_mem_set hr2 with h3|rfl
 ·exact kA.mono (hr.ok r h3) (fun j _ e=> .inl e)
 exact hp
def XG (S:bD) (W:World) (e:Ending) (w':World):Prop:=
 ∃(gB cB gI cI lim:Nat) (LB:LS) (RL:fe),e= .returned (.agg #[.int .i64 (S.w:Int),.slice (some ⟨gB,0,none⟩) S.ins.length cB,.slice (some ⟨gI,0,none⟩) S.ins.length cI])∧Hid (MW w' W.heap.size lim (.slice (some ⟨gB,0,none⟩) S.ins.length cB) (.slice (some ⟨gI,0,none⟩) S.ins.length cI) LB RL S)∧Ext No W w'
set_option maxRecDepth 100000 in
set_option maxHeartbeats 16000000 in
theorem ry (S:bD) (vb vi:Value) (W:World) (h8:eY S) (h:je No W vb vi S):
  Calls Tryz.prog 46 #[.agg #[.int .i64 (S.w:Int),vb,vi]] W (XG S W):=by
 obtain ⟨iB,hiB,hB0,hB1,hB2⟩:=info_parts yZ
 obtain ⟨iL,GX,hL0,hL1,hL2⟩:=info_parts XD
 obtain ⟨iA,um,rC,hA1,hA2⟩:=info_parts Am
 obtain ⟨iC,hiC,hC0,zO,hC2⟩:=info_parts XE
 have H:=aa h
 have H8:=aa h8
 have hn1:=h8.ok.n1
 have hn2:=h8.n8
 have hw8:=h8.w8
 obtain ⟨ab,cb,ai,ci,rfl,rfl⟩:=h.slices
 clear h h8
 obtain ⟨N,hN⟩:∃N,N=S.ins.length:=⟨_,rfl⟩
 have HN:=aa hN
 have abh:=Ao 23 44 iB _ Tryz.underlying23 hiB hB0 2 32 hB1 hB2 N (by omega) (by omega) (by omega)
 have abj:=Ao 24 40 iL _ Tryz.underlying24 GX hL0 1 24 hL1 hL2 N (by omega) (by omega) (by omega)
 rw [←hN] at hn1 hn2 ⊢
 clear hN
 go_enter Tryz.func46,Tryz.ntmps46
 go_upto_region 1 with (fail)
 have hx0:Ext No W ((W.alloc (.cells #[.int .i64 (S.w:Int),.slice ab N cb,.slice ai N ci] 26)).alloc (.cells #[.int .i64 0,.slice none 0 0,.slice none 0 0] 26)):=((Ext.refl _ _).alloc _).alloc _
 have HA:=aa (zK hx0)
 have HC:=aa (zM hx0)
 have HX:=aa hx0
 have IA:=aa (show ((W.alloc (.cells #[.int .i64 (S.w:Int),.slice ab N cb,.slice ai N ci] 26)).alloc (.cells #[.int .i64 0,.slice none 0 0,.slice none 0 0] 26)).heap.size=W.heap.size+2 from by simp)
 clear hx0
 generalize World.alloc (World.alloc W _) _=V at*
 go_cut [3] (fun s3 wx=>∃(D gB gI:Nat),s3= .pointer (some ⟨D,0,none⟩)∧Hid (Ext No V wx)∧Hid (wx.heap[D]? =some (.cells #[.int .i64 (S.w:Int),.slice (some ⟨gB,0,none⟩) N N,.slice (some ⟨gI,0,none⟩) N N] 26 (0,0)))∧Hid (wx.heap[gB]? =some (.cells (madeCells #[.int .i64 0,.slice none 0 0] (N*2)) 44 (0,0)))∧Hid (wx.heap[gI]? =some (.cells (madeCells #[.slice none 0 0] N) 40 (0,0)))∧gB≠gI∧gB≠D∧gI≠D∧V.heap.size≤gB∧V.heap.size≤gI∧V.heap.size≤D)
 case first=>
  refine uW (fun w'=>Ext No V w') aS fun hHeld=>?_
  have hE0:=aa (show Ext No V V.drew from (Ext.refl _ _).drew)
  generalize V.drew=v at*
  refine uO [0,1,2,3,4,6,7,8] ?_
  iterate 8 refine uT ?_ (hy:=Dc)
  refine uZ ?_
  have hst:Tg 1:=trivial
  iterate 4
   all_goals first
    |((guard_hyp hst:Tg 1);(clear hst);(refine gp (i:=5) (j:=9) (k:=11) (by kernel_rfl) (aD.mk rfl rfl (fun K hK=>have hop:Tg 1005:=trivial;have hst:Tg 2:=trivial;?_)) (aD.mk rfl rfl (fun K hK=>have hop:Tg 1009:=trivial;have hst:Tg 3:=trivial;?_)) (aD.mk rfl rfl (fun K hK=>have hop:Tg 1011:=trivial;have hst:Tg 4:=trivial;?_))))
    |((guard_hyp hst:Tg 2);(clear hst);(refine aN (i:=9) (j:=11) (by kernel_rfl) (aD.mk rfl rfl (fun K hK=>have hop:Tg 1009:=trivial;have hst:Tg 5:=trivial;?_)) (aD.mk rfl rfl (fun K hK=>have hop:Tg 1011:=trivial;have hst:Tg 6:=trivial;?_))))
    |((guard_hyp hst:Tg 3);(clear hst);(refine aN (i:=5) (j:=11) (by kernel_rfl) (aD.mk rfl rfl (fun K hK=>have hop:Tg 1005:=trivial;have hst:Tg 5:=trivial;?_)) (aD.mk rfl rfl (fun K hK=>have hop:Tg 1011:=trivial;have hst:Tg 7:=trivial;?_))))
    |((guard_hyp hst:Tg 4);(clear hst);(refine aN (i:=5) (j:=9) (by kernel_rfl) (aD.mk rfl rfl (fun K hK=>have hop:Tg 1005:=trivial;have hst:Tg 6:=trivial;?_)) (aD.mk rfl rfl (fun K hK=>have hop:Tg 1009:=trivial;have hst:Tg 7:=trivial;?_))))
    |((guard_hyp hst:Tg 5);(clear hst);(refine aN (i:=10) (j:=11) (by kernel_rfl) (aD.mk rfl rfl (fun K hK=>have hop:Tg 1010:=trivial;have hst:Tg 8:=trivial;?_)) (aD.mk rfl rfl (fun K hK=>have hop:Tg 1011:=trivial;have hst:Tg 9:=trivial;?_))))
    |((guard_hyp hst:Tg 6);(clear hst);(refine fA (i:=9) rfl (by kernel_rfl) rfl (fun K hK=>have hop:Tg 1009:=trivial;have hst:Tg 9:=trivial;?_)))
    |((guard_hyp hst:Tg 7);(clear hst);(refine fA (i:=5) rfl (by kernel_rfl) rfl (fun K hK=>have hop:Tg 1005:=trivial;have hst:Tg 9:=trivial;?_)))
    |((guard_hyp hst:Tg 8);(clear hst);(refine fA (i:=11) rfl (by kernel_rfl) rfl (fun K hK=>have hop:Tg 1011:=trivial;have hst:Tg 10:=trivial;?_)))
    |((guard_hyp hst:Tg 9);(clear hst);(refine fA (i:=10) rfl (by kernel_rfl) rfl (fun K hK=>have hop:Tg 1010:=trivial;have hst:Tg 10:=trivial;?_)))
   all_goals first
    |((guard_hyp hop:Tg 1005);(clear hop);((go_simp));(refine hK.out _ _ (by exact Ext.alloc (show Ext No V _ from hHeld) _) (fun fT=>?_));(clear hK K hHeld);(have hHeld:=fT);(clear fT);((have BG:=aa (show V.heap.size≤v.heap.size from (show Ext No V _ from hE0.out).size));(try have nBI:=aa (show v.heap.size≠gI from (Nat.ne_of_lt (lt_of_block hI.out)).symm));(try have nBD:=aa (show v.heap.size≠gD from (Nat.ne_of_lt (lt_of_block hD.out)).symm));(have aF:=(Ext.refl No v).alloc (.cells (madeCells #[.int .i64 0,.slice none 0 0] (N*2)) 44));(try replace hI:=aa (aF.blk hI ax));(try replace hD:=aa (aF.blk hD ax));(have hB:=aa (ah (w:=v) (o:=(.cells (madeCells #[.int .i64 0,.slice none 0 0] (N*2)) 44)) rfl));(have wB:=BG);(replace hE0:=aa (hE0.af aF));(clear BG aF);(generalize v.heap.size=gB at*);(generalize (v.alloc (.cells (madeCells #[.int .i64 0,.slice none 0 0] (N*2)) 44))=v at*));(try simp only [Act.put,zP,zQ,zR]))
    |((guard_hyp hop:Tg 1009);(clear hop);((go_simp));(refine hK.out _ _ (by exact Ext.alloc (show Ext No V _ from hHeld) _) (fun fT=>?_));(clear hK K hHeld);(have hHeld:=fT);(clear fT);((have BG:=aa (show V.heap.size≤v.heap.size from (show Ext No V _ from hE0.out).size));(try have nBI:=aa (show gB≠v.heap.size from Nat.ne_of_lt (lt_of_block hB.out)));(try have nID:=aa (show v.heap.size≠gD from (Nat.ne_of_lt (lt_of_block hD.out)).symm));(have aF:=(Ext.refl No v).alloc (.cells (madeCells #[.slice none 0 0] N) 40));(try replace hB:=aa (aF.blk hB ax));(try replace hD:=aa (aF.blk hD ax));(have hI:=aa (ah (w:=v) (o:=(.cells (madeCells #[.slice none 0 0] N) 40)) rfl));(have wI:=BG);(replace hE0:=aa (hE0.af aF));(clear BG aF);(generalize v.heap.size=gI at*);(generalize (v.alloc (.cells (madeCells #[.slice none 0 0] N) 40))=v at*));(try simp only [Act.put,zP,zQ,zR]))
    |((guard_hyp hop:Tg 1010);(clear hop);((go_simp));(refine hK.out _ _ (by exact hHeld) (fun fT=>?_));(clear hK K hHeld);(have hHeld:=fT);(clear fT);(try simp only [Act.put,zP,zQ,zR]))
    |((guard_hyp hop:Tg 1011);(clear hop);((go_simp));(refine hK.out _ _ (by exact Ext.alloc (show Ext No V _ from hHeld) _) (fun fT=>?_));(clear hK K hHeld);(have hHeld:=fT);(clear fT);((have BG:=aa (show V.heap.size≤v.heap.size from (show Ext No V _ from hE0.out).size));(try have nBD:=aa (show gB≠v.heap.size from Nat.ne_of_lt (lt_of_block hB.out)));(try have nID:=aa (show gI≠v.heap.size from Nat.ne_of_lt (lt_of_block hI.out)));(have aF:=(Ext.refl No v).alloc (.cells #[.int .i64 0,.slice none 0 0,.slice none 0 0] 26));(try replace hB:=aa (aF.blk hB ax));(try replace hI:=aa (aF.blk hI ax));(have hD:=aa (ah (w:=v) (o:=(.cells #[.int .i64 0,.slice none 0 0,.slice none 0 0] 26)) rfl));(have wD:=BG);(replace hE0:=aa (hE0.af aF));(clear BG aF);(generalize v.heap.size=gD at*);(generalize (v.alloc (.cells #[.int .i64 0,.slice none 0 0,.slice none 0 0] 26))=v at*));(try simp only [Act.put,zP,zQ,zR]))
  all_goals
   clear hst
   refine hHc 12 fun K hK=>?_
   ((have cS:=cellOf hD.out);(have fS:=aH hD.out);go_simp;(clear cS fS))
   refine hK.out _ _ (by exact aaS (show Ext No V _ from hHeld) wD) (fun fT=>?_)
   clear hK K hHeld
   have hHeld:=fT
   clear fT
   refine uD ?_
   have eX:Ext No V _:=hHeld
   go_wp2_with fail
   go_meet
   exact ⟨gD,gB,gI,rfl,eX,(az (j:=2) (az (j:=1) (az (j:=0) hD))).trans rfl,(jw v gD _ _ _).blk hB (fun e=>nBD e),(jw v gD _ _ _).blk hI (fun e=>nID e),nBI,nBD,nID,wB,wI,wD⟩
 case rest=>
  obtain ⟨D,gB,gI,rfl,hx,hD,hB,hI,n1,n2,n3,w1,w2,w3⟩:=hcut
  rename World=>wx
  have Wq:=aa (QZ (by omega) hx hD hB hI n1 n2 n3 w1 w2 w3)
  clear hx hD hB hI n1 n2 n3 w1 w2 w3 abh abj
  have HAX:=aa (Wq.ext.blk HA ax)
  have cA:=cellOf HAX.out
  go_wp2_with fail
  clear cA HAX
  go_loopw [4,5,6,7,8,23] (fun _ _ _ _ _ s23 wr=>∃(n lim:Nat) (LB:LS) (RL:fe),s23= .int .i64 n∧n≤N∧Hid (CkM V wr D lim S.w (.slice (some ⟨gB,0,none⟩) N N) (.slice (some ⟨gI,0,none⟩) N N) LB RL)∧Hid (LB.length=N∧RL.length=N)∧Hid (∀t,t < n→(LB[t]?).map Prod.fst=some (bJ S.w (dA S.bnd t)))∧Hid (∀t,t < n→(RL[t]?).map (fun p=>p.1.map fJ)=some (aT (aR S t)))) (fun _ _ _ _ _ s23 _=>N - (intOf s23).toNat)
  case atStart=>exact ⟨0,_,_,_,rfl,Nat.zero_le _,Wq,aa ⟨List.length_replicate ..,List.length_replicate ..⟩,aa (fun t h=>absurd h (Nat.not_lt_zero _)),aa (fun t h=>absurd h (Nat.not_lt_zero _))⟩
  clear Wq
  obtain ⟨n,lim,LB,RL,rfl,hn,hm,hlen,hLB,Yc⟩:=hrel
  rename World=>wr
  by_cases hlt:n < N
  ·have hlz:(n:Int) < (N:Int):=by omega
   have HKK:Hid (Value.int .i64 ((n:Int)+1)= .int .i64 ((n+1:Nat):Int)):=aa (by rw [show ((n+1:Nat):Int)=(n:Int)+1 from by omega])
   obtain ⟨b,off,cap,a,c,kC,hcell,hA⟩:=(H.aj HX).Nn (i:=n) (by rw [←HN];exact hlt)
   simp only [Value.slice.injEq] at kC
   obtain ⟨rfl,-,rfl⟩:=kC
   obtain ⟨bb,ob,kb,a5,c5,kC,g01,hset⟩:=((H.aj HX).bnd).cells (i:=n) (by rw [H.ok.lb,←HN];exact hlt)
   simp only [Value.slice.injEq] at kC
   obtain ⟨rfl,-,rfl⟩:=kC
   obtain ⟨m,hm2⟩:∃m,m=(aR S n).length:=⟨_,rfl⟩
   have HM:=aa hm2
   rw [←hm2] at hcell hA
   clear hm2
   have KQ:m≤256:=by have h1:=(H8.ok.row n).len;have:=HM.out;have:=H8.ok.n2;omega
   have HQ:=aa g01
   have YI:=aa hcell
   clear g01 hcell
   have abk:=Ao 40 49 iA _ Tryz.underlying40 um rC 6 96 hA1 hA2 m (by omega) (by omega) (by omega)
   have c4:=hm.ext.keep YI
   go_upto_region 5 with (fail)
   clear c4
   have Ws:=aa hm.box
   have Ca:=aa (hm.ext.blk HA ax)
   refine aL [10] (fun w'=>Ext No wr w') (by kernel_rfl) ?_ (fun hHeld=>?_)
   ·exact bX
   have HE:=aa (show Ext No wr wr.drew from (Ext.refl _ _).drew)
   generalize wr.drew=v0 at*
   refine uJ [0,1,2,3,4,5,6,7] hHeld ?_
   clear hHeld
   refine uF ?_
   refine uL ?_ (hy:=(by intro w hSw;(have x0:=cellOf ((show Ext No wr _ from hSw).blk Ws ax));go_simp;(try with_reducible rfl)))
   iterate 2 refine uF ?_
   refine uL ?_ (hy:=De)
   iterate 2 refine uF ?_
   refine uL ?_ (hy:=(by intro w hSw;(obtain ⟨p0,p1⟩:=HQ.out);(have x0:=(show Ext No wr _ from hSw).keep (hm.ext.keep p0));(have x1:=(show Ext No wr _ from hSw).keep (hm.ext.keep p1));go_simp;(try with_reducible rfl)))
   refine uZ fun hHeld=>?_
   refine uN 8 fun K hK=>?_
   (go_simp;(go_at_call 81);(refine (Av (Lo wr.heap.size) S.w (dA S.bnd n) _ _ (fun b e=>Nat.lt_of_lt_of_le e HE.size) (hset.aj (hm.ext.af HE))).mono ?_);(rintro e1 vs ⟨d5,Yf,rfl,hs5,aF⟩);go_simp)
   refine uK hK eu ?_
   clear hK K hHeld
   intro hHeld
   replace HE:=aa (HE.af aF)
   clear aF
   have hm1:=aa ((hm.aC HE).lift (lim':=vs.heap.size) (Nat.le_trans hm.x.lh HE.size) (Nat.le_refl _))
   have hw5:=aa (hs5.words.mono (M':=dW (.slice (some ⟨gB,0,none⟩) N N) (.slice (some ⟨gI,0,none⟩) N N) RL vs.heap.size V.heap.size) (fun i hi e=>hm.x.clear hi e))
   refine uJ [9] hHeld ?_
   clear hHeld
   refine uF ?_
   refine uZ fun hHeld=>?_
   refine uN 10 fun K hK=>?_
   ((obtain ⟨q0,q1⟩:=hm1.x.qP hlen.1.symm (t:=n) (by have:=hlen.1;omega));(have f0:=hm1.x.Cn hlen.1.symm (n*2));(have f1:=hm1.x.Cn hlen.1.symm (n*2+1));go_simp;(clear q0 q1 f0 f1))
   refine uK hK bz ?_
   clear hK K hHeld
   intro hHeld
   have hm2:=aa (show CkM V ((vs.setCell ⟨gB,n*2,none⟩ (.int .i64 (S.w:Int))).setCell ⟨gB,n*2+1,none⟩ (.slice d5 (nw S.w) Yf)) D vs.heap.size S.w (.slice (some ⟨gB,0,none⟩) N N) (.slice (some ⟨gI,0,none⟩) N N) (LB.set n (bJ S.w (dA S.bnd n),.slice d5 (nw S.w) Yf)) RL from hm1.Ad (p:=(bJ S.w (dA S.bnd n),.slice d5 (nw S.w) Yf)) hlen.1.symm (by have:=hlen.1;omega) hw5)
   have GL:=aa (Ay Prod.fst (fun t=>some (bJ S.w (dA S.bnd t))) LB n (bJ S.w (dA S.bnd n),.slice d5 (nw S.w) Yf) hLB (by have:=hlen.1;omega) rfl)
   have abl:=aa (show (LB.set n (bJ S.w (dA S.bnd n),.slice d5 (nw S.w) Yf)).length=N from by rw [List.length_set];exact hlen.1)
   have za:=aa hlen.2
   clear hm1 hw5 hs5 hm HE hLB hlen Ws Ca HQ hset
   generalize World.setCell (World.setCell vs _ _) _ _=wB at*
   generalize vs.heap.size=acU at*
   generalize (LB.set n (bJ S.w (dA S.bnd n),.slice d5 (nw S.w) Yf))=IB at*
   refine uE ?_
   skip
   go_upto_region 6 with (fail)
   have Ws:=aa hm2.box
   refine aL [7] (fun w'=>Ext No wB w') (by kernel_rfl) ?_ (fun hHeld=>?_)
   ·exact bX
   have HE:=aa (show Ext No wB wB.drew from (Ext.refl _ _).drew)
   generalize wB.drew=v0 at*
   refine uJ [0,1,2,3,4] hHeld ?_
   clear hHeld
   refine uF ?_
   refine uL ?_ (hy:=(by intro w hSw;(have x0:=cellOf ((show Ext No wB _ from hSw).blk Ws ax));go_simp;(try with_reducible rfl)))
   iterate 3 refine uF ?_
   refine uZ fun hHeld=>?_
   refine uN 5 fun K hK=>?_
   go_simp
   refine uK hK fF ?_
   clear hK K hHeld
   intro hHeld
   have hx1:=(Ext.refl No v0).alloc (.cells (madeCells #[.int .i64 0,.int .i64 0,.slice none 0 0,.int .i64 0,.slice none 0 0,.slice none 0 0] (m*6)) 49)
   have hrow:=aa (show (v0.alloc (.cells (madeCells #[.int .i64 0,.int .i64 0,.slice none 0 0,.int .i64 0,.slice none 0 0,.slice none 0 0] (m*6)) 49)).ownsRow v0.heap.size 49 6 (.slice (some ⟨v0.heap.size,0,none⟩) m m) m ((List.replicate m zAr).flatMap kA.cells) from QY kA zAr (.agg #[.int .i64 0,.int .i64 0,.slice none 0 0,.int .i64 0,.slice none 0 0,.slice none 0 0]) rfl (by decide) m (by simp only [maxLen];omega) v0)
   have hgl:=aa HE.size
   replace HE:=aa (HE.af hx1)
   have gX:=aa (hm2.aC HE)
   clear hx1
   generalize World.alloc v0 _=v1 at*
   generalize v0.heap.size=gA at*
   refine uJ [6] hHeld ?_
   clear hHeld
   refine uF ?_
   refine uZ fun hHeld=>?_
   refine uN 7 fun K hK=>?_
   ((have q0:=gX.x.kV za.symm (t:=n) (by have:=za.out;omega));(have f0:=gX.x.TN za.symm n);go_simp;(clear q0 f0))
   refine uK hK bz ?_
   clear hK K hHeld
   intro hHeld
   have og:=aa (show CkM V (v1.setCell ⟨gI,n,none⟩ (.slice (some ⟨gA,0,none⟩) m m)) D v1.heap.size S.w (.slice (some ⟨gB,0,none⟩) N N) (.slice (some ⟨gI,0,none⟩) N N) IB (RL.set n (List.replicate m zAr,(.slice (some ⟨gA,0,none⟩) m m))) from hm2.putRow za.symm (by have:=za.out;omega) rfl ((Ext.refl _ wB).af HE) (by rw [List.length_replicate];exact dY hrow (Nat.le_trans hm2.ext.size hgl)) (fun p hp=>(by rw [List.eq_of_mem_replicate hp];exact XF _ _)) (.inr (fun k hk=>(by have h1:=hgl.out;simp only [Value.ownBlock,Option.some.injEq] at hk;omega))))
   clear hm2 gX hrow hgl HE Ws
   generalize World.setCell v1 _ _=wC at*
   generalize v1.heap.size=acV at*
   refine uE ?_
   skip
   clear abk
   go_wp2_with fail
   go_loopw [6,7,8,47] (fun _ _ _ s47 wy=>∃(i TP:Nat) (L:LA),s47= .int .i64 i∧i≤m∧Hid (CkM V wy D TP S.w (.slice (some ⟨gB,0,none⟩) N N) (.slice (some ⟨gI,0,none⟩) N N) IB (RL.set n (L,(.slice (some ⟨gA,0,none⟩) m m))))∧Hid (L.length=m)∧Hid (∀t,t < i→(L[t]?).map fJ=(aT (aR S n))[t]?)) (fun _ _ _ s47 _=>m - (intOf s47).toNat)
   case atStart=>exact ⟨0,_,_,rfl,Nat.zero_le _,og,List.length_replicate ..,aa (fun t h=>absurd h (Nat.not_lt_zero _))⟩
   clear og
   obtain ⟨i,TP,L,rfl,hi,hk,hL,YJ⟩:=hrel
   rename World=>wy
   by_cases hlt2:i < m
   ·have hiz:(i:Int) < (m:Int):=by omega
    have YK:Hid (Value.int .i64 ((i:Int)+1)= .int .i64 ((i+1:Nat):Int)):=aa (by rw [show ((i+1:Nat):Int)=(i:Int)+1 from by omega])
    have hjd:i < (aR S n).length:=by have:=HM.out;omega
    obtain ⟨mm,f,jq⟩:∃mm f,(mm,f)=(aR S n)[i]:=⟨_,_,rfl⟩
    have oP:Hid (∃hjd:i < (aR S n).length,(mm,f)=(aR S n)[i]):=aa ⟨hjd,jq⟩
    obtain ⟨ba,oa,ka,ag,cg,ak,ck,ac,nc,cc,kC,gt,BF,pI⟩:=fq.at (fun p hp=>H.ok.tr (i:=n) hp) (by have h:=hA.aj hk.ext;rw [HM] at h;exact h) hjd jq
    simp only [Value.slice.injEq] at kC
    obtain ⟨rfl,-,rfl⟩:=kC
    obtain ⟨q0,q1,q2,q3,q4,q5⟩:=gt
    have HNC:=aa (show nc=f.copies.length from by obtain ⟨_,_,h3⟩:=Row.slice BF.copies;simp only [Value.slice.injEq] at h3;exact h3.2.1)
    have abm:=aa (BF.ok.len)
    have hnc:nc≤64:=by have:=HNC.out;have:=abm.out;omega
    clear jq hjd
    go_upto_region 10 with (fail)
    clear q0 q1 q2 q3 q4 q5
    have Iy:Ext No wy (wy.alloc (.cells #[.int .i64 (mm:Int),.int .i64 (S.w:Int),.slice ag (nw S.w) cg,.int .i64 (S.w:Int),.slice ak (nw S.w) ck,.slice ac nc cc] 49)):=(Ext.refl _ _).alloc _
    have HF:=aa (ah (w:=wy) (o:=(.cells #[.int .i64 (mm:Int),.int .i64 (S.w:Int),.slice ag (nw S.w) cg,.int .i64 (S.w:Int),.slice ak (nw S.w) ck,.slice ac nc cc] 49)) rfl)
    have hk1:=aa (hk.aC Iy)
    replace BF:=aa (BF.aj Iy)
    clear hk Iy
    generalize World.alloc wy _=U at*
    generalize wy.heap.size=gF at*
    have abo:=Ao 45 75 iC _ Tryz.underlying45 hiC hC0 2 16 zO hC2 nc (by omega) (by omega) (by omega)
    go_cut [8] (fun s8 wz=>∃(gE gC:Nat) (d1:Option Addr) (PD:Nat) (d2:Option Addr) (PE:Nat),s8= .pointer (some ⟨gE,0,none⟩)∧Hid (Ext No U wz)∧Hid (wz.heap[gE]? =some (.cells #[.int .i64 (S.w:Int),.slice d1 (nw S.w) PD,.int .i64 (S.w:Int),.slice d2 (nw S.w) PE,.slice (some ⟨gC,0,none⟩) nc nc] 47 (0,0)))∧Hid (wz.heap[gC]? =some (.cells (madeCells #[.int .i64 0,.int .i64 0] (nc*2)) 75 (0,0)))∧Hid (aG (fun b=>Lo U.heap.size b∨b=gE∨b=gC) wz (.slice d1 (nw S.w) PD) S.w f.gen)∧Hid (aG (fun b=>Lo U.heap.size b∨b=gE∨b=gC) wz (.slice d2 (nw S.w) PE) S.w f.kill)∧gC≠gE∧U.heap.size≤gE∧U.heap.size≤gC)
    case first=>
     refine uW (fun w'=>Ext No U w') aS fun hHeld=>?_
     have hE0:=aa (show Ext No U U.drew from (Ext.refl _ _).drew)
     generalize U.drew=v at*
     refine uO [0,1,2,4,5,6,8,9,10,11] ?_
     iterate 10 refine uT ?_ (hy:=(by intro w hSw;(have q0:=cellOf ((show Ext No U _ from hSw).blk HF ax));go_simp;(try with_reducible rfl)))
     refine uZ ?_
     have hst:Tg 1:=trivial
     iterate 5
      all_goals first
       |((guard_hyp hst:Tg 1);(clear hst);(refine gp (i:=3) (j:=12) (k:=14) (by kernel_rfl) (aD.mk rfl rfl (fun K hK=>have hop:Tg 1003:=trivial;have hst:Tg 2:=trivial;?_)) (aD.mk rfl rfl (fun K hK=>have hop:Tg 1012:=trivial;have hst:Tg 3:=trivial;?_)) (aD.mk rfl rfl (fun K hK=>have hop:Tg 1014:=trivial;have hst:Tg 4:=trivial;?_))))
       |((guard_hyp hst:Tg 2);(clear hst);(refine gp (i:=7) (j:=12) (k:=14) (by kernel_rfl) (aD.mk rfl rfl (fun K hK=>have hop:Tg 1007:=trivial;have hst:Tg 5:=trivial;?_)) (aD.mk rfl rfl (fun K hK=>have hop:Tg 1012:=trivial;have hst:Tg 6:=trivial;?_)) (aD.mk rfl rfl (fun K hK=>have hop:Tg 1014:=trivial;have hst:Tg 7:=trivial;?_))))
       |((guard_hyp hst:Tg 3);(clear hst);(refine aN (i:=3) (j:=14) (by kernel_rfl) (aD.mk rfl rfl (fun K hK=>have hop:Tg 1003:=trivial;have hst:Tg 6:=trivial;?_)) (aD.mk rfl rfl (fun K hK=>have hop:Tg 1014:=trivial;have hst:Tg 8:=trivial;?_))))
       |((guard_hyp hst:Tg 4);(clear hst);(refine aN (i:=3) (j:=12) (by kernel_rfl) (aD.mk rfl rfl (fun K hK=>have hop:Tg 1003:=trivial;have hst:Tg 7:=trivial;?_)) (aD.mk rfl rfl (fun K hK=>have hop:Tg 1012:=trivial;have hst:Tg 8:=trivial;?_))))
       |((guard_hyp hst:Tg 5);(clear hst);(refine aN (i:=12) (j:=14) (by kernel_rfl) (aD.mk rfl rfl (fun K hK=>have hop:Tg 1012:=trivial;have hst:Tg 9:=trivial;?_)) (aD.mk rfl rfl (fun K hK=>have hop:Tg 1014:=trivial;have hst:Tg 10:=trivial;?_))))
       |((guard_hyp hst:Tg 6);(clear hst);(refine aN (i:=7) (j:=14) (by kernel_rfl) (aD.mk rfl rfl (fun K hK=>have hop:Tg 1007:=trivial;have hst:Tg 9:=trivial;?_)) (aD.mk rfl rfl (fun K hK=>have hop:Tg 1014:=trivial;have hst:Tg 11:=trivial;?_))))
       |((guard_hyp hst:Tg 7);(clear hst);(refine aN (i:=7) (j:=12) (by kernel_rfl) (aD.mk rfl rfl (fun K hK=>have hop:Tg 1007:=trivial;have hst:Tg 10:=trivial;?_)) (aD.mk rfl rfl (fun K hK=>have hop:Tg 1012:=trivial;have hst:Tg 11:=trivial;?_))))
       |((guard_hyp hst:Tg 8);(clear hst);(refine fA (i:=3) rfl (by kernel_rfl) rfl (fun K hK=>have hop:Tg 1003:=trivial;have hst:Tg 11:=trivial;?_)))
       |((guard_hyp hst:Tg 9);(clear hst);(refine aN (i:=13) (j:=14) (by kernel_rfl) (aD.mk rfl rfl (fun K hK=>have hop:Tg 1013:=trivial;have hst:Tg 12:=trivial;?_)) (aD.mk rfl rfl (fun K hK=>have hop:Tg 1014:=trivial;have hst:Tg 13:=trivial;?_))))
       |((guard_hyp hst:Tg 10);(clear hst);(refine fA (i:=12) rfl (by kernel_rfl) rfl (fun K hK=>have hop:Tg 1012:=trivial;have hst:Tg 13:=trivial;?_)))
       |((guard_hyp hst:Tg 11);(clear hst);(refine fA (i:=7) rfl (by kernel_rfl) rfl (fun K hK=>have hop:Tg 1007:=trivial;have hst:Tg 13:=trivial;?_)))
       |((guard_hyp hst:Tg 12);(clear hst);(refine fA (i:=14) rfl (by kernel_rfl) rfl (fun K hK=>have hop:Tg 1014:=trivial;have hst:Tg 14:=trivial;?_)))
       |((guard_hyp hst:Tg 13);(clear hst);(refine fA (i:=13) rfl (by kernel_rfl) rfl (fun K hK=>have hop:Tg 1013:=trivial;have hst:Tg 14:=trivial;?_)))
      all_goals first
       |((guard_hyp hop:Tg 1003);(clear hop);((go_simp);(go_at_call 81);(refine (Av (Lo v.heap.size) S.w f.gen _ _ (fun b e=>e) (by have h:=BF.out.gen;rw [pI.out] at h;exact h.aj hE0)).mono ?_);(rintro e1 u ⟨d1,PD,rfl,hS,aF⟩);(go_simp));(refine hK.out _ _ (by exact Ext.af (show Ext No U _ from hHeld) aF) (fun fT=>?_));(clear hK K hHeld);(have hHeld:=fT);(clear fT);((have NG:=aa (hS.out.mono (M':=Lo U.heap.size) (fun i _ e=>Nat.lt_of_lt_of_le e hE0.out.size)));(try have Np:=aa (hS.out.mono (M':=At gC) (fun i _ e=>by rw [show i=gC from e];exact lt_of_block hC.out)));(try have Nq:=aa (hS.mono (M':=At gE) (fun i _ e=>by rw [show i=gE from e];exact lt_of_block hE.out)));(try replace NH:=aa (NH.aj aF));(try replace Nr:=aa (Nr.aj aF));(try replace Ns:=aa (Ns.aj aF));(try replace hC:=aa (aF.blk hC ax));(try replace hE:=aa (aF.blk hE ax));(replace hE0:=aa (hE0.af aF));(clear aF hS);(generalize u=v at*));(try simp only [Act.put,zP,zQ,zR]))
       |((guard_hyp hop:Tg 1007);(clear hop);((go_simp);(go_at_call 81);(refine (Av (Lo v.heap.size) S.w f.kill _ _ (fun b e=>e) (by have h:=BF.out.kill;rw [pI.out] at h;exact h.aj hE0)).mono ?_);(rintro e1 u ⟨d2,PE,rfl,hS,aF⟩);(go_simp));(refine hK.out _ _ (by exact Ext.af (show Ext No U _ from hHeld) aF) (fun fT=>?_));(clear hK K hHeld);(have hHeld:=fT);(clear fT);((have NH:=aa (hS.out.mono (M':=Lo U.heap.size) (fun i _ e=>Nat.lt_of_lt_of_le e hE0.out.size)));(try have Nr:=aa (hS.out.mono (M':=At gC) (fun i _ e=>by rw [show i=gC from e];exact lt_of_block hC.out)));(try have Ns:=aa (hS.mono (M':=At gE) (fun i _ e=>by rw [show i=gE from e];exact lt_of_block hE.out)));(try replace NG:=aa (NG.aj aF));(try replace Np:=aa (Np.aj aF));(try replace Nq:=aa (Nq.aj aF));(try replace hC:=aa (aF.blk hC ax));(try replace hE:=aa (aF.blk hE ax));(replace hE0:=aa (hE0.af aF));(clear aF hS);(generalize u=v at*));(try simp only [Act.put,zP,zQ,zR]))
       |((guard_hyp hop:Tg 1012);(clear hop);((go_simp));(refine hK.out _ _ (by exact Ext.alloc (show Ext No U _ from hHeld) _) (fun fT=>?_));(clear hK K hHeld);(have hHeld:=fT);(clear fT);((have hSz:=aa (show U.heap.size≤v.heap.size from hE0.out.size));(have aF:=(Ext.refl No v).alloc (.cells (madeCells #[.int .i64 0,.int .i64 0] (nc*2)) 75));(try have Np:=aa ((NG.mono (M':=At v.heap.size) (fun i hi e=>absurd hi (by rw [show i=_ from e];exact Nat.lt_irrefl _))).aj aF));(try replace NG:=aa (NG.aj aF));(try replace Nq:=aa (Nq.aj aF));(try have Nr:=aa ((NH.mono (M':=At v.heap.size) (fun i hi e=>absurd hi (by rw [show i=_ from e];exact Nat.lt_irrefl _))).aj aF));(try replace NH:=aa (NH.aj aF));(try replace Ns:=aa (Ns.aj aF));(try have nEC:=aa (show gE≠v.heap.size from Nat.ne_of_lt (lt_of_block hE.out)));(try replace hE:=aa (aF.blk hE ax));(have hC:=aa (ah (w:=v) (o:=(.cells (madeCells #[.int .i64 0,.int .i64 0] (nc*2)) 75)) rfl));(have wC:=hSz);(replace hE0:=aa (hE0.af aF));(clear hSz aF);(generalize v.heap.size=gC at*);(generalize (v.alloc (.cells (madeCells #[.int .i64 0,.int .i64 0] (nc*2)) 75))=v at*));(try simp only [Act.put,zP,zQ,zR]))
       |((guard_hyp hop:Tg 1013);(clear hop);((go_simp));(refine hK.out _ _ (by exact hHeld) (fun fT=>?_));(clear hK K hHeld);(have hHeld:=fT);(clear fT);(try simp only [Act.put,zP,zQ,zR]))
       |((guard_hyp hop:Tg 1014);(clear hop);((go_simp));(refine hK.out _ _ (by exact Ext.alloc (show Ext No U _ from hHeld) _) (fun fT=>?_));(clear hK K hHeld);(have hHeld:=fT);(clear fT);((have hSz:=aa (show U.heap.size≤v.heap.size from hE0.out.size));(have aF:=(Ext.refl No v).alloc (.cells #[.int .i64 0,.slice none 0 0,.int .i64 0,.slice none 0 0,.slice none 0 0] 47));(try have Nq:=aa ((NG.mono (M':=At v.heap.size) (fun i hi e=>absurd hi (by rw [show i=_ from e];exact Nat.lt_irrefl _))).aj aF));(try replace NG:=aa (NG.aj aF));(try replace Np:=aa (Np.aj aF));(try have Ns:=aa ((NH.mono (M':=At v.heap.size) (fun i hi e=>absurd hi (by rw [show i=_ from e];exact Nat.lt_irrefl _))).aj aF));(try replace NH:=aa (NH.aj aF));(try replace Nr:=aa (Nr.aj aF));(try have nEC:=aa (show v.heap.size≠gC from (Nat.ne_of_lt (lt_of_block hC.out)).symm));(try replace hC:=aa (aF.blk hC ax));(have hE:=aa (ah (w:=v) (o:=(.cells #[.int .i64 0,.slice none 0 0,.int .i64 0,.slice none 0 0,.slice none 0 0] 47)) rfl));(have wE:=hSz);(replace hE0:=aa (hE0.af aF));(clear hSz aF);(generalize v.heap.size=gE at*);(generalize (v.alloc (.cells #[.int .i64 0,.slice none 0 0,.int .i64 0,.slice none 0 0,.slice none 0 0] 47))=v at*));(try simp only [Act.put,zP,zQ,zR]))
     all_goals
      clear hst
      refine hHc 15 fun K hK=>?_
      ((have cS:=cellOf hE.out);(have fS:=aH hE.out);go_simp;(clear cS fS))
      refine hK.out _ _ (by exact VR (show Ext No U _ from hHeld) wE) (fun fT=>?_)
      clear hK K hHeld
      have hHeld:=fT
      clear fT
      refine uD ?_
      have eX:Ext No U _:=hHeld
      go_wp2_with fail
      go_meet
      exact ⟨gE,gC,d1,PD,d2,PE,rfl,eX,(az (j:=4) (az (j:=3) (az (j:=2) (az (j:=1) (az (j:=0) hE))))).trans rfl,((((((Ext.refl (At gE) v).setAt 0 _).setAt 1 _).setAt 2 _).setAt 3 _).setAt 4 _).blk hC (fun e=>nEC e.symm),(NG.or (Nq.or Np)).ext ((((((Ext.refl (At gE) v).setAt 0 _).setAt 1 _).setAt 2 _).setAt 3 _).setAt 4 _) (fun i _ e=> .inr (.inl e)),(NH.or (Ns.or Nr)).ext ((((((Ext.refl (At gE) v).setAt 0 _).setAt 1 _).setAt 2 _).setAt 3 _).setAt 4 _) (fun i _ e=> .inr (.inl e)),(fun e=>nEC e.symm),wE,wC⟩
    case rest=>
    obtain ⟨gE,gC,d1,PD,d2,PE,rfl,hx,hE,hC,NG,NH,hne,wE,wC⟩:=hcut
    rename World=>wz
    clear abo
    have HFz:=aa (hx.blk HF ax)
    have KO:Row No wz 2 (.slice ac nc cc) nc (iZ f.copies):=by
     have h:=Row.aj BF.copies hx
     rw [←HNC] at h
     exact h
    obtain ⟨w2,hrun,hC2,hE2⟩:=uH (P:= Tryz.prog) 45 45 3 75 2 Tryz.underlying45 (jP hiC zO) gC nc nc ac cc _ _ hC (by simp [madeCells]) (iZ f.copies) KO (Lj _)
    have cE:=cellOf hE.out
    have cF:=cellOf HFz.out
    go_upto_region 12 with (fail)
    clear cE cF hrun KO
    have HE2:=aa (hE2.blk hE (fun (e:gE=gC)=>hne e.symm))
    have HF2:=aa (hE2.blk HFz (fun (e:gF=gC)=>by have h1:=lt_of_block HF.out;omega))
    have hXU:Ext No U w2:=hx.aJ hE2 (fun i hi e=>by unfold At at e;omega)
    have hk2:=aa ((hk1.aC hXU).lift (lim':=w2.heap.size) (Nat.le_trans hk1.x.lh hXU.size) (Nat.le_refl _))
    have hok:Hid (kA.ok (dW (.slice (some ⟨gB,0,none⟩) N N) (.slice (some ⟨gI,0,none⟩) N N) (RL.set n (L,(.slice (some ⟨gA,0,none⟩) m m))) w2.heap.size V.heap.size) w2 ((mm:Int),bM f,Value.slice d1 (nw S.w) PD,Value.slice d2 (nw S.w) PE,Value.slice (some ⟨gC,0,none⟩) nc nc)):=aa (Un pI ((NG.ext hE2 (fun i _ e=> .inr (.inr e))).mono (fun i hi e=> .inl (hk1.x.clear hi e))) ((NH.ext hE2 (fun i _ e=> .inr (.inr e))).mono (fun i hi e=> .inl (hk1.x.clear hi e))) (by
     have h:=Row.block (M:=(dW (.slice (some ⟨gB,0,none⟩) N N) (.slice (some ⟨gI,0,none⟩) N N) (RL.set n (L,(.slice (some ⟨gA,0,none⟩) m m))) w2.heap.size V.heap.size)) (n:=nc) (s:=2) hC2 (by have:=A9 f.copies;have:=HNC.out;simp;omega) (fun e=>by have h1:=hk1.x.clear (lt_of_block hC2.out) e;omega) (by omega)
     rw [HNC] at h ⊢
     exact h))
    have Ws:=aa hk2.box
    have Cb:=aa (show w2.cell? ⟨gI,n,none⟩=some (.slice (some ⟨gA,0,none⟩) m m) from by
     have h:=hk2.x.kV (by rw [List.length_set];exact za.symm) (t:=n) (by rw [List.length_set];have:=za.out;omega)
     rw [List.getElem_set_self] at h
     exact h)
    clear hx hE hC NG NH hE2 hC2 hXU hk1 HF HFz BF
    refine aL [11] (fun w'=>Ext No w2 w') (by kernel_rfl) ?_ (fun hHeld=>?_)
    ·exact bX
    have HE:=aa (show Ext No w2 w2.drew from (Ext.refl _ _).drew)
    generalize w2.drew=v0 at*
    refine uJ [0,1,2,3,4,5,6,7,8,9,10] hHeld ?_
    clear hHeld
    refine uF ?_
    refine uL ?_ (hy:=(by intro w hSw;(have x0:=cellOf ((show Ext No w2 _ from hSw).blk Ws ax));go_simp;(try with_reducible rfl)))
    iterate 2 refine uF ?_
    refine uL ?_ (hy:=(by intro w hSw;(have x0:=(show Ext No w2 _ from hSw).keep Cb);go_simp;(try with_reducible rfl)))
    iterate 2 refine uF ?_
    refine uL ?_ (hy:=(by intro w hSw;(have x0:=cellOf ((show Ext No w2 _ from hSw).blk HF2 ax));go_simp;(try with_reducible rfl)))
    refine uL ?_ (hy:=(by intro w hSw;(have x0:=cellOf ((show Ext No w2 _ from hSw).blk HE2 ax));go_simp;(try with_reducible rfl)))
    iterate 2 refine uF ?_
    refine uZ fun hHeld=>?_
    refine uN 11 fun K hK=>?_
    ((obtain ⟨⟨u0,u1,u2,u3,u4,u5,q0,q1,q2,q3,q4,q5⟩,f0,f1,f2,f3,f4,f5⟩:=(hk2.aC HE).x.xA (t:=n) (i:=i) (L:=L) (g:=gA) (c:=m) (N:=m) (by rw [List.length_set];have:=za.out;omega) (by rw [List.getElem_set_self]) hL.symm (by have:=hL.out;omega));go_simp;(clear q0 q1 q2 q3 q4 q5 f0 f1 f2 f3 f4 f5))
    refine uK hK bz ?_
    clear hK K hHeld
    intro hHeld
    have hk3:=aa (show CkM V ((((((v0.setCell ⟨gA,i*6,none⟩ (.int .i64 (mm:Int))).setCell ⟨gA,i*6+1,none⟩ (.int .i64 (S.w:Int))).setCell ⟨gA,i*6+2,none⟩ (.slice d1 (nw S.w) PD)).setCell ⟨gA,i*6+3,none⟩ (.int .i64 (S.w:Int))).setCell ⟨gA,i*6+4,none⟩ (.slice d2 (nw S.w) PE)).setCell ⟨gA,i*6+5,none⟩ (.slice (some ⟨gC,0,none⟩) nc nc)) D w2.heap.size S.w (.slice (some ⟨gB,0,none⟩) N N) (.slice (some ⟨gI,0,none⟩) N N) IB (RL.set n (L.set i ((mm:Int),bM f,Value.slice d1 (nw S.w) PD,Value.slice d2 (nw S.w) PE,Value.slice (some ⟨gC,0,none⟩) nc nc),(.slice (some ⟨gA,0,none⟩) m m))) from by
     have h:=(hk2.aC HE).abg (i:=i) (p:=((mm:Int),bM f,Value.slice d1 (nw S.w) PD,Value.slice d2 (nw S.w) PE,Value.slice (some ⟨gC,0,none⟩) nc nc)) (c:=m) (g:=gA) (t:=n) (L:=L) (by rw [List.length_set];exact za.symm) (by rw [List.length_set];have:=za.out;omega) (by rw [List.getElem_set_self,hL]) (by have:=hL.out;omega) (kA.ext hok HE (fun i _ e=>e.elim))
     rw [List.set_set,hL] at h
     simp only [bM,bJ,pI.out] at h ⊢
     exact h)
    generalize World.setCell (World.setCell (World.setCell (World.setCell (World.setCell (World.setCell v0 _ _) _ _) _ _) _ _) _ _) _ _=wF at*
    refine uE ?_
    go_wp2_with fail
    go_roundw
    case rel=>exact ⟨i+1,_,L.set i ((mm:Int),bM f,Value.slice d1 (nw S.w) PD,Value.slice d2 (nw S.w) PE,Value.slice (some ⟨gC,0,none⟩) nc nc),YK,by omega,hk3,aa (by rw [List.length_set];exact hL),Ay fJ (fun t=>(aT (aR S n))[t]?) L i ((mm:Int),bM f,Value.slice d1 (nw S.w) PD,Value.slice d2 (nw S.w) PE,Value.slice (some ⟨gC,0,none⟩) nc nc) YJ (by have:=hL.out;omega) (oP.elim fun h1 h2=>(by simp [aT,h1,←h2,fJ]))⟩
    case measure=>simp [intOf];omega
   have hge:¬(i:Int) < (m:Int):=by omega
   have him:i=m:=by omega
   subst him
   go_wp2_with fail
   go_roundw
   case rel=>exact ⟨n+1,_,IB,RL.set n (L,.slice (some ⟨gA,0,none⟩) i i),HKK.out,by omega,hk,aa ⟨abl.out,by rw [List.length_set];exact za.out⟩,GL,aa (Ay (fun p=>p.1.map fJ) (fun t=>some (aT (aR S t))) RL n _ Yc.out (by have:=za.out;omega) (congrArg some (Ji fJ L _ i YJ.out hL.out (by have:=HM.out;simp [aT];omega))))⟩
   case measure=>simp [intOf];omega
  have hge:¬(n:Int) < (N:Int):=by omega
  have hnN:n=N:=by omega
  subst hnN
  have cD:=cellOf hm.box
  have HCw:=aa (hm.ext.blk HC ax)
  have cC:=cellOf HCw.out
  have fC:=aH HCw.out
  go_wp2_with fail
  have jR:Ext (At (W.heap.size+1)) wr (((wr.setCell ⟨W.heap.size+1,0,none⟩ (.int .i64 (S.w:Int))).setCell ⟨W.heap.size+1,1,none⟩ (.slice (some ⟨gB,0,none⟩) n n)).setCell ⟨W.heap.size+1,2,none⟩ (.slice (some ⟨gI,0,none⟩) n n)):=jw _ _ _ _ _
  have hbF:=(az (j:=2) (u:= .slice (some ⟨gI,0,none⟩) n n) (az (j:=1) (u:= .slice (some ⟨gB,0,none⟩) n n) (az (j:=0) (u:= .int .i64 (S.w:Int)) HCw))).trans rfl
  generalize World.setCell (World.setCell (World.setCell wr _ _) _ _) _ _=WF at*
  have cF:=cellOf hbF
  refine aW rfl ?_
  simp [results,Tryz.results46,go_sem,cF]
  have hVW:=IA.out
  have hS:=HN.out
  subst hS
  have h1:=hm.x.vU jR (fun i _ e=>by unfold At at e;omega)
  exact ⟨gB,_,gI,_,lim,LB,RL,rfl,aa ⟨h1.lower (by omega),H8,Ji Prod.fst LB _ _ (fun t ht=>(by have h9:t < S.bnd.length:=(by rw [H8.ok.lb];exact ht);rw [hLB t ht,List.getElem?_map,List.getElem?_eq_getElem h9,Option.map_some,kI h9])) hlen.1 (by rw [List.length_map];exact H8.ok.lb),hlen.2,fun i h=>(by have h9:=Yc.out i (by rw [←hlen.2];exact h);rw [List.getElem?_eq_getElem h] at h9;exact Option.some.inj h9)⟩,(HX.af hm.ext).aJ jR (fun i hi e=>by unfold At at e;omega)⟩

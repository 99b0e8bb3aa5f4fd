
import Derived.Test.YtmddchceacmopaaGreatDoorE41
set_option linter.unusedVariables false
set_option linter.unusedSimpArgs false
namespace Go.Proofs.YtmddchceacmopaaGreatDoor
open Go Go.RowKit
theorem D7 {p:Prop} (h:p:=by intro w hSw;(have q0:=cellOf ((show Ext No w4 _ from hSw).blk HQ ax));go_simp;(try with_reducible rfl)):p:=h
theorem fU.step {w w':World} {g x m:Nat} (h:fU w g x m) (hx:Ext No w w'):fU w' g x m:=hx.blk h ax
theorem fU.VV {w m g:Nat} {w':World} (h:fU w' g w m) (hw:w≤256) (hm:m < 2 ^ w):aG No w' (.slice (some ⟨g,0,none⟩) (nw w) (nw w)) w m:=h.set hw hm ax
def K7 (m:Nat) (W:World) (e:Ending) (w':World):Prop:=
 ∃g,e= .returned (.agg #[.int .i64 2,.slice (some ⟨g,0,none⟩) (nw 2) (nw 2)])∧Hid (fU w' g 2 m)∧W.heap.size≤g∧Ext No W w'
theorem AO (W:World):Calls Tryz.prog 39 #[.int .i64 2] W (K7 0 W):=fK 2 W (by decide)
theorem Uw (sl:Value) (W:World) (h:aG No W sl 2 0):Calls Tryz.prog 40 #[.agg #[.int .i64 2,sl],.int .i64 0] W (K7 1 W):=iW 2 0 0 sl W (by decide) h
theorem Ux (W:World):Calls Tryz.prog 42 #[.int .i64 2] W (K7 3 W):=Ow 2 W (by decide)
theorem Uy (m:Nat) (u v:Value) (W:World) (hs:aG No W u 2 m) (ht:aG No W v 2 m):Calls Tryz.prog 41 #[.agg #[.int .i64 2,u],.agg #[.int .i64 2,v]] W (bZ true W):=by
 have h:=sw _ _ _ _ W hs.raw ht.raw
 rw [show kW (bJ 2 m) (bJ 2 m)=true from decide_eq_true ⟨rfl,rfl⟩] at h
 exact h
def IQ:cK:=⟨2,0,0,[(0,1)]⟩
def Qh:bD:=⟨2,[[(0,IQ)]],[1]⟩
theorem Uz:eO IQ:=⟨by decide,by decide,by decide,by decide,fun i h=>by
 have:i=0:=by simp [IQ] at h;omega
 subst this;exact ⟨rfl,rfl⟩,fun i h=>by simp [IQ] at h⟩
theorem M6:eY Qh:=sD (by decide) (by decide) (by decide) rfl (fun l hl=>by
 obtain rfl:l=[(0,IQ)]:=List.mem_singleton.1 hl
 refine ⟨by simp [dR],fun p hp=>?_,fun p hp=>?_⟩
 ·obtain rfl:=List.mem_singleton.1 hp;show 0 < 1;omega
 ·obtain rfl:=List.mem_singleton.1 hp;exact ⟨Uz,rfl⟩) (fun m hm=>by
 obtain rfl:m=1:=List.mem_singleton.1 hm
 decide)
theorem Rb:dN Qh 0=⟨2,[[]],[3]⟩:=by kernel_rfl
theorem UA {w:World} {q2 q5 q6 g1 gA gK qC:Nat} (h1:fU w g1 2 1) (h2:w.heap[q2]? =some (.cells #[.int .i64 2,.slice (some ⟨g1,0,none⟩) (nw 2) (nw 2)] 44 (0,0))) (h5:w.heap[q5]? =some (.cells #[.int .i64 0,.int .i64 2,.slice (some ⟨gA,0,none⟩) (nw 2) (nw 2),.int .i64 2,.slice (some ⟨gK,0,none⟩) (nw 2) (nw 2),.slice (some ⟨qC,0,none⟩) 1 1] 49 (0,0)))
  (h6:w.heap[q6]? =some (.cells #[.slice (some ⟨q5,0,none⟩) 1 1] 40 (0,0))) (hA:fU w gA 2 0) (hK:fU w gK 2 0) (hC:w.heap[qC]? =some (.cells #[.int .i64 0,.int .i64 1] 75 (0,0))):je No w (.slice (some ⟨q2,0,none⟩) 1 1) (.slice (some ⟨q6,0,none⟩) 1 1) Qh:=by
 have hs:aG No w (.slice (some ⟨g1,0,none⟩) (nw 2) (nw 2)) 2 1:=h1.set (by decide) (by decide) ax
 have hb:jb kS No w (.slice (some ⟨q2,0,none⟩) 1 1) [(bJ 2 1,.slice (some ⟨g1,0,none⟩) (nw 2) (nw 2))]:=⟨Row.block h2 rfl ax (by omega),fun p hp=>by
  obtain rfl:=List.mem_singleton.1 hp;exact hs.words⟩
 have hf:bN No w (.slice (some ⟨gA,0,none⟩) (nw 2) (nw 2)) (.slice (some ⟨gK,0,none⟩) (nw 2) (nw 2)) (.slice (some ⟨qC,0,none⟩) 1 1) (bM IQ):=⟨(hA.set (by decide) (by decide) ax).words,(hK.set (by decide) (by decide) ax).words,Row.block hC rfl ax (by omega)⟩
 have ha:jb kA No w (.slice (some ⟨q5,0,none⟩) 1 1) [((0:Int),bM IQ,.slice (some ⟨gA,0,none⟩) (nw 2) (nw 2),.slice (some ⟨gK,0,none⟩) (nw 2) (nw 2),Value.slice (some ⟨qC,0,none⟩) 1 1)]:=⟨Row.block h5 rfl ax (by omega),fun p hp=>by
  obtain rfl:=List.mem_singleton.1 hp;exact hf⟩
 refine ⟨M6.ok,hb.Mw rfl (by decide) (fun m hm=>by obtain rfl:m=1:=List.mem_singleton.1 hm;decide),[([((0:Int),bM IQ,.slice (some ⟨gA,0,none⟩) (nw 2) (nw 2),.slice (some ⟨gK,0,none⟩) (nw 2) (nw 2),Value.slice (some ⟨qC,0,none⟩) 1 1)],.slice (some ⟨q5,0,none⟩) 1 1)],⟨Row.block h6 rfl ax (by omega),fun p hp=>by
  obtain rfl:=List.mem_singleton.1 hp;exact ha⟩,rfl,fun i hi=>?_⟩
 obtain rfl:i=0:=by simp at hi;omega
 rfl
def UB (W:World) (e:Ending) (w':World):Prop:=∃(vb vi:Value),e= .returned (.tuple #[.agg #[.int .i64 2,vb,vi],.int .i64 0])∧Hid (je No w' vb vi ⟨2,[[]],[3]⟩)∧Ext No W w'
theorem Rc (vb vi:Value) (W:World) (h:je No W vb vi Qh) (hT:iQ W):Calls Tryz.prog 23 #[.agg #[.int .i64 2,vb,vi],.int .i64 0] W (UB W):=by
 have h1:=wX Qh 0 vb vi W M6 h hT (by decide)
 refine Calls.mono h1 ?_
 rintro e w' ⟨vb1,Tx,rfl,h2,h3⟩
 have h4:=h2.out
 rw [Rb] at h4 ⊢
 exact ⟨vb1,Tx,rfl,h4,h3⟩
set_option maxRecDepth 100000 in
set_option maxHeartbeats 16000000 in
theorem Lr (W:World) (hT:iQ W):Calls Tryz.prog 12 #[] W (bZ true W):=by
 have HT:=aa hT
 clear hT
 go_enter Tryz.func12,Tryz.ntmps12
 go_wp2_with fail
 refine (AO _).mono ?_
 rintro e1 w1 ⟨gA,rfl,hb1,_,hx1⟩
 go_wp2_with fail
 refine (AO _).mono ?_
 rintro e2 w2 ⟨gK,rfl,hb2,_,hx2⟩
 have HA:=aa (show fU w2 gA 2 0 from hb1.step hx2)
 have ji:=aa (hx1.af hx2)
 clear hx1 hx2 hb1
 go_upto_region 2 with (fail)
 have hx:Ext No w2 ((w2.alloc (.cells #[.int .i64 0,.int .i64 1] 75)).alloc (.cells #[.int .i64 2,.slice (some ⟨gA,0,none⟩) (nw 2) (nw 2),.int .i64 2,.slice (some ⟨gK,0,none⟩) (nw 2) (nw 2),.slice (some ⟨w2.heap.size,0,none⟩) 1 1] 47)):=((Ext.refl _ _).alloc _).alloc _
 have HC:=aa (zK hx)
 have HF:=aa (zM hx)
 replace HA:=aa (HA.step hx)
 have HK:=aa (show fU _ gK 2 0 from (show fU w2 gK 2 0 from hb2).step hx)
 have HX:=aa (ji.af hx)
 clear hx hb2 ji
 generalize World.alloc (World.alloc w2 _) _=V at*
 generalize w2.heap.size=qC at*
 go_cut [2] (fun s2 wx=>∃D q2 q5 q6 g1,s2= .pointer (some ⟨D,0,none⟩)∧Hid (Ext No V wx)∧Hid (wx.heap[D]? =some (.cells #[.int .i64 2,.slice (some ⟨q2,0,none⟩) 1 1,.slice (some ⟨q6,0,none⟩) 1 1] 26 (0,0)))∧Hid (fU wx g1 2 1)∧Hid (wx.heap[q2]? =some (.cells #[.int .i64 2,.slice (some ⟨g1,0,none⟩) (nw 2) (nw 2)] 44 (0,0)))∧Hid (wx.heap[q5]? =some (.cells #[.int .i64 0,.int .i64 2,.slice (some ⟨gA,0,none⟩) (nw 2) (nw 2),.int .i64 2,.slice (some ⟨gK,0,none⟩) (nw 2) (nw 2),.slice (some ⟨qC,0,none⟩) 1 1] 49 (0,0)))∧Hid (wx.heap[q6]? =some (.cells #[.slice (some ⟨q5,0,none⟩) 1 1] 40 (0,0))))
 case first=>
  refine uW (fun w'=>Ext No V w') aS fun hHeld=>?_
  have hE:=aa (show Ext No V V.drew from (Ext.refl _ _).drew)
  generalize V.drew=v at*
  refine uO [3,4] ?_
  iterate 2 refine uT ?_ (hy:=(by intro w hSw;(have q0:=cellOf ((show Ext No V _ from hSw).blk HF ax));go_simp;(try with_reducible rfl)))
  refine uZ ?_
  have hst:Tg 1:=trivial
  iterate 7
   all_goals first
    |((guard_hyp hst:Tg 1);(clear hst);(refine gp (i:=0) (j:=5) (k:=8) (by kernel_rfl) (aD.mk rfl rfl (fun K hK=>have hop:Tg 1000:=trivial;have hst:Tg 2:=trivial;?_)) (aD.mk rfl rfl (fun K hK=>have hop:Tg 1005:=trivial;have hst:Tg 3:=trivial;?_)) (aD.mk rfl rfl (fun K hK=>have hop:Tg 1008:=trivial;have hst:Tg 4:=trivial;?_))))
    |((guard_hyp hst:Tg 2);(clear hst);(refine gp (i:=1) (j:=5) (k:=8) (by kernel_rfl) (aD.mk rfl rfl (fun K hK=>have hop:Tg 1001:=trivial;have hst:Tg 5:=trivial;?_)) (aD.mk rfl rfl (fun K hK=>have hop:Tg 1005:=trivial;have hst:Tg 6:=trivial;?_)) (aD.mk rfl rfl (fun K hK=>have hop:Tg 1008:=trivial;have hst:Tg 7:=trivial;?_))))
    |((guard_hyp hst:Tg 3);(clear hst);(refine gp (i:=0) (j:=6) (k:=8) (by kernel_rfl) (aD.mk rfl rfl (fun K hK=>have hop:Tg 1000:=trivial;have hst:Tg 6:=trivial;?_)) (aD.mk rfl rfl (fun K hK=>have hop:Tg 1006:=trivial;have hst:Tg 8:=trivial;?_)) (aD.mk rfl rfl (fun K hK=>have hop:Tg 1008:=trivial;have hst:Tg 9:=trivial;?_))))
    |((guard_hyp hst:Tg 4);(clear hst);(refine aN (i:=0) (j:=5) (by kernel_rfl) (aD.mk rfl rfl (fun K hK=>have hop:Tg 1000:=trivial;have hst:Tg 7:=trivial;?_)) (aD.mk rfl rfl (fun K hK=>have hop:Tg 1005:=trivial;have hst:Tg 9:=trivial;?_))))
    |((guard_hyp hst:Tg 5);(clear hst);(refine gp (i:=2) (j:=5) (k:=8) (by kernel_rfl) (aD.mk rfl rfl (fun K hK=>have hop:Tg 1002:=trivial;have hst:Tg 10:=trivial;?_)) (aD.mk rfl rfl (fun K hK=>have hop:Tg 1005:=trivial;have hst:Tg 11:=trivial;?_)) (aD.mk rfl rfl (fun K hK=>have hop:Tg 1008:=trivial;have hst:Tg 12:=trivial;?_))))
    |((guard_hyp hst:Tg 6);(clear hst);(refine gp (i:=1) (j:=6) (k:=8) (by kernel_rfl) (aD.mk rfl rfl (fun K hK=>have hop:Tg 1001:=trivial;have hst:Tg 11:=trivial;?_)) (aD.mk rfl rfl (fun K hK=>have hop:Tg 1006:=trivial;have hst:Tg 13:=trivial;?_)) (aD.mk rfl rfl (fun K hK=>have hop:Tg 1008:=trivial;have hst:Tg 14:=trivial;?_))))
    |((guard_hyp hst:Tg 7);(clear hst);(refine aN (i:=1) (j:=5) (by kernel_rfl) (aD.mk rfl rfl (fun K hK=>have hop:Tg 1001:=trivial;have hst:Tg 12:=trivial;?_)) (aD.mk rfl rfl (fun K hK=>have hop:Tg 1005:=trivial;have hst:Tg 14:=trivial;?_))))
    |((guard_hyp hst:Tg 8);(clear hst);(refine aN (i:=0) (j:=8) (by kernel_rfl) (aD.mk rfl rfl (fun K hK=>have hop:Tg 1000:=trivial;have hst:Tg 13:=trivial;?_)) (aD.mk rfl rfl (fun K hK=>have hop:Tg 1008:=trivial;have hst:Tg 15:=trivial;?_))))
    |((guard_hyp hst:Tg 9);(clear hst);(refine aN (i:=0) (j:=6) (by kernel_rfl) (aD.mk rfl rfl (fun K hK=>have hop:Tg 1000:=trivial;have hst:Tg 14:=trivial;?_)) (aD.mk rfl rfl (fun K hK=>have hop:Tg 1006:=trivial;have hst:Tg 15:=trivial;?_))))
    |((guard_hyp hst:Tg 10);(clear hst);(refine aN (i:=5) (j:=8) (by kernel_rfl) (aD.mk rfl rfl (fun K hK=>have hop:Tg 1005:=trivial;have hst:Tg 16:=trivial;?_)) (aD.mk rfl rfl (fun K hK=>have hop:Tg 1008:=trivial;have hst:Tg 17:=trivial;?_))))
    |((guard_hyp hst:Tg 11);(clear hst);(refine gp (i:=2) (j:=6) (k:=8) (by kernel_rfl) (aD.mk rfl rfl (fun K hK=>have hop:Tg 1002:=trivial;have hst:Tg 16:=trivial;?_)) (aD.mk rfl rfl (fun K hK=>have hop:Tg 1006:=trivial;have hst:Tg 18:=trivial;?_)) (aD.mk rfl rfl (fun K hK=>have hop:Tg 1008:=trivial;have hst:Tg 19:=trivial;?_))))
    |((guard_hyp hst:Tg 12);(clear hst);(refine aN (i:=2) (j:=5) (by kernel_rfl) (aD.mk rfl rfl (fun K hK=>have hop:Tg 1002:=trivial;have hst:Tg 17:=trivial;?_)) (aD.mk rfl rfl (fun K hK=>have hop:Tg 1005:=trivial;have hst:Tg 19:=trivial;?_))))
    |((guard_hyp hst:Tg 13);(clear hst);(refine aN (i:=1) (j:=8) (by kernel_rfl) (aD.mk rfl rfl (fun K hK=>have hop:Tg 1001:=trivial;have hst:Tg 18:=trivial;?_)) (aD.mk rfl rfl (fun K hK=>have hop:Tg 1008:=trivial;have hst:Tg 20:=trivial;?_))))
    |((guard_hyp hst:Tg 14);(clear hst);(refine aN (i:=1) (j:=6) (by kernel_rfl) (aD.mk rfl rfl (fun K hK=>have hop:Tg 1001:=trivial;have hst:Tg 19:=trivial;?_)) (aD.mk rfl rfl (fun K hK=>have hop:Tg 1006:=trivial;have hst:Tg 20:=trivial;?_))))
    |((guard_hyp hst:Tg 15);(clear hst);(refine fA (i:=0) rfl (by kernel_rfl) rfl (fun K hK=>have hop:Tg 1000:=trivial;have hst:Tg 20:=trivial;?_)))
    |((guard_hyp hst:Tg 16);(clear hst);(refine aN (i:=6) (j:=8) (by kernel_rfl) (aD.mk rfl rfl (fun K hK=>have hop:Tg 1006:=trivial;have hst:Tg 21:=trivial;?_)) (aD.mk rfl rfl (fun K hK=>have hop:Tg 1008:=trivial;have hst:Tg 22:=trivial;?_))))
    |((guard_hyp hst:Tg 17);(clear hst);(refine fA (i:=5) rfl (by kernel_rfl) rfl (fun K hK=>have hop:Tg 1005:=trivial;have hst:Tg 22:=trivial;?_)))
    |((guard_hyp hst:Tg 18);(clear hst);(refine aN (i:=2) (j:=8) (by kernel_rfl) (aD.mk rfl rfl (fun K hK=>have hop:Tg 1002:=trivial;have hst:Tg 21:=trivial;?_)) (aD.mk rfl rfl (fun K hK=>have hop:Tg 1008:=trivial;have hst:Tg 23:=trivial;?_))))
    |((guard_hyp hst:Tg 19);(clear hst);(refine aN (i:=2) (j:=6) (by kernel_rfl) (aD.mk rfl rfl (fun K hK=>have hop:Tg 1002:=trivial;have hst:Tg 22:=trivial;?_)) (aD.mk rfl rfl (fun K hK=>have hop:Tg 1006:=trivial;have hst:Tg 23:=trivial;?_))))
    |((guard_hyp hst:Tg 20);(clear hst);(refine fA (i:=1) rfl (by kernel_rfl) rfl (fun K hK=>have hop:Tg 1001:=trivial;have hst:Tg 23:=trivial;?_)))
    |((guard_hyp hst:Tg 21);(clear hst);(refine aN (i:=7) (j:=8) (by kernel_rfl) (aD.mk rfl rfl (fun K hK=>have hop:Tg 1007:=trivial;have hst:Tg 24:=trivial;?_)) (aD.mk rfl rfl (fun K hK=>have hop:Tg 1008:=trivial;have hst:Tg 25:=trivial;?_))))
    |((guard_hyp hst:Tg 22);(clear hst);(refine fA (i:=6) rfl (by kernel_rfl) rfl (fun K hK=>have hop:Tg 1006:=trivial;have hst:Tg 25:=trivial;?_)))
    |((guard_hyp hst:Tg 23);(clear hst);(refine fA (i:=2) rfl (by kernel_rfl) rfl (fun K hK=>have hop:Tg 1002:=trivial;have hst:Tg 25:=trivial;?_)))
    |((guard_hyp hst:Tg 24);(clear hst);(refine fA (i:=8) rfl (by kernel_rfl) rfl (fun K hK=>have hop:Tg 1008:=trivial;have hst:Tg 26:=trivial;?_)))
    |((guard_hyp hst:Tg 25);(clear hst);(refine fA (i:=7) rfl (by kernel_rfl) rfl (fun K hK=>have hop:Tg 1007:=trivial;have hst:Tg 26:=trivial;?_)))
   all_goals first
    |((guard_hyp hop:Tg 1000);(clear hop);((go_simp);(go_at_call 39);(refine (AO v).mono ?_);(rintro e1 u ⟨g0,rfl,hb,hlo,aF⟩);(go_simp));(refine hK.out _ _ (by exact Ext.af (show Ext No V _ from hHeld) aF) (fun fT=>?_));(clear hK K hHeld);(have hHeld:=fT);(clear fT);((try replace b1:=aa (b1.out.step aF));(try replace s2:=aa (aF.blk s2.out ax));(try replace a5:=aa (aF.blk a5.out ax));(try replace i6:=aa (aF.blk i6.out ax));(try replace d8:=aa (aF.blk d8.out ax));(replace hE:=aa (hE.out.af aF));(have b0:=hb);(clear aF hlo hb);(generalize u=v at*));(try simp only [Act.put,zP,zQ,zR]))
    |((guard_hyp hop:Tg 1001);(clear hop);((go_simp);(go_at_call 40);(refine (Uw _ v (fU.VV (show fU _ g0 2 0 from b0.out) (by decide) (by decide))).mono ?_);(rintro e1 u ⟨g1,rfl,hb,hlo,aF⟩);(go_simp));(refine hK.out _ _ (by exact Ext.af (show Ext No V _ from hHeld) aF) (fun fT=>?_));(clear hK K hHeld);(have hHeld:=fT);(clear fT);((try have nb1:=aa (show g1≠D from fun e=>by have:=lt_of_block d8.out;omega));(try replace b0:=aa (b0.out.step aF));(try replace s2:=aa (aF.blk s2.out ax));(try replace a5:=aa (aF.blk a5.out ax));(try replace i6:=aa (aF.blk i6.out ax));(try replace d8:=aa (aF.blk d8.out ax));(replace hE:=aa (hE.out.af aF));(have b1:=hb);(clear aF hlo hb);(generalize u=v at*));(try simp only [Act.put,zP,zQ,zR]))
    |((guard_hyp hop:Tg 1002);(clear hop);((go_simp));(refine hK.out _ _ (by exact Ext.alloc (show Ext No V _ from hHeld) _) (fun fT=>?_));(clear hK K hHeld);(have hHeld:=fT);(clear fT);((try have ns2:=aa (show v.heap.size≠D from (Nat.ne_of_lt (lt_of_block d8.out)).symm));(have aF:=(Ext.refl No v).alloc (.cells #[.int .i64 2,.slice (some ⟨g1,0,none⟩) (nw 2) (nw 2)] 44));(try replace b0:=aa (b0.step aF));(try replace b1:=aa (b1.step aF));(try replace a5:=aa (aF.blk a5 ax));(try replace i6:=aa (aF.blk i6 ax));(try replace d8:=aa (aF.blk d8 ax));(replace hE:=aa (hE.af aF));(have s2:=aa (ah (w:=v) (o:=(.cells #[.int .i64 2,.slice (some ⟨g1,0,none⟩) (nw 2) (nw 2)] 44)) rfl));(clear aF);(generalize v.heap.size=q2 at*);(generalize (v.alloc (.cells #[.int .i64 2,.slice (some ⟨g1,0,none⟩) (nw 2) (nw 2)] 44))=v at*));(try simp only [Act.put,zP,zQ,zR]))
    |((guard_hyp hop:Tg 1005);(clear hop);((go_simp));(refine hK.out _ _ (by exact Ext.alloc (show Ext No V _ from hHeld) _) (fun fT=>?_));(clear hK K hHeld);(have hHeld:=fT);(clear fT);((try have na5:=aa (show v.heap.size≠D from (Nat.ne_of_lt (lt_of_block d8.out)).symm));(have aF:=(Ext.refl No v).alloc (.cells #[.int .i64 0,.int .i64 2,.slice (some ⟨gA,0,none⟩) (nw 2) (nw 2),.int .i64 2,.slice (some ⟨gK,0,none⟩) (nw 2) (nw 2),.slice (some ⟨qC,0,none⟩) 1 1] 49));(try replace b0:=aa (b0.step aF));(try replace b1:=aa (b1.step aF));(try replace s2:=aa (aF.blk s2 ax));(try replace i6:=aa (aF.blk i6 ax));(try replace d8:=aa (aF.blk d8 ax));(replace hE:=aa (hE.af aF));(have a5:=aa (ah (w:=v) (o:=(.cells #[.int .i64 0,.int .i64 2,.slice (some ⟨gA,0,none⟩) (nw 2) (nw 2),.int .i64 2,.slice (some ⟨gK,0,none⟩) (nw 2) (nw 2),.slice (some ⟨qC,0,none⟩) 1 1] 49)) rfl));(clear aF);(generalize v.heap.size=q5 at*);(generalize (v.alloc (.cells #[.int .i64 0,.int .i64 2,.slice (some ⟨gA,0,none⟩) (nw 2) (nw 2),.int .i64 2,.slice (some ⟨gK,0,none⟩) (nw 2) (nw 2),.slice (some ⟨qC,0,none⟩) 1 1] 49))=v at*));(try simp only [Act.put,zP,zQ,zR]))
    |((guard_hyp hop:Tg 1006);(clear hop);((go_simp));(refine hK.out _ _ (by exact Ext.alloc (show Ext No V _ from hHeld) _) (fun fT=>?_));(clear hK K hHeld);(have hHeld:=fT);(clear fT);((try have ni6:=aa (show v.heap.size≠D from (Nat.ne_of_lt (lt_of_block d8.out)).symm));(have aF:=(Ext.refl No v).alloc (.cells #[.slice (some ⟨q5,0,none⟩) 1 1] 40));(try replace b0:=aa (b0.step aF));(try replace b1:=aa (b1.step aF));(try replace s2:=aa (aF.blk s2 ax));(try replace a5:=aa (aF.blk a5 ax));(try replace d8:=aa (aF.blk d8 ax));(replace hE:=aa (hE.af aF));(have i6:=aa (ah (w:=v) (o:=(.cells #[.slice (some ⟨q5,0,none⟩) 1 1] 40)) rfl));(clear aF);(generalize v.heap.size=q6 at*);(generalize (v.alloc (.cells #[.slice (some ⟨q5,0,none⟩) 1 1] 40))=v at*));(try simp only [Act.put,zP,zQ,zR]))
    |((guard_hyp hop:Tg 1008);(clear hop);((go_simp));(refine hK.out _ _ (by exact Ext.alloc (show Ext No V _ from hHeld) _) (fun fT=>?_));(clear hK K hHeld);(have hHeld:=fT);(clear fT);((try have nb1:=aa (show g1≠v.heap.size from Nat.ne_of_lt (lt_of_block b1.out)));(try have ns2:=aa (show q2≠v.heap.size from Nat.ne_of_lt (lt_of_block s2.out)));(try have na5:=aa (show q5≠v.heap.size from Nat.ne_of_lt (lt_of_block a5.out)));(try have ni6:=aa (show q6≠v.heap.size from Nat.ne_of_lt (lt_of_block i6.out)));(have wE:=aa (show V.heap.size≤v.heap.size from hE.out.size));(have aF:=(Ext.refl No v).alloc (.cells #[.int .i64 0,.slice none 0 0,.slice none 0 0] 26));(try replace b0:=aa (b0.step aF));(try replace b1:=aa (b1.step aF));(try replace s2:=aa (aF.blk s2 ax));(try replace a5:=aa (aF.blk a5 ax));(try replace i6:=aa (aF.blk i6 ax));(replace hE:=aa (hE.af aF));(have d8:=aa (ah (w:=v) (o:=(.cells #[.int .i64 0,.slice none 0 0,.slice none 0 0] 26)) rfl));(clear aF);(generalize v.heap.size=D at*);(generalize (v.alloc (.cells #[.int .i64 0,.slice none 0 0,.slice none 0 0] 26))=v at*));(try simp only [Act.put,zP,zQ,zR]))
    |((guard_hyp hop:Tg 1007);(clear hop);((go_simp));(refine hK.out _ _ (by exact hHeld) (fun fT=>?_));(clear hK K hHeld);(have hHeld:=fT);(clear fT);(try simp only [Act.put,zP,zQ,zR]))
  all_goals
   clear hst
   refine hHc 9 fun K hK=>?_
   ((have cS:=cellOf d8.out);(have fS:=aH d8.out);go_simp;(clear cS fS))
   refine hK.out _ _ (by exact ((((show Ext No V _ from hHeld).own wE.out _).own wE.out _).own wE.out _)) (fun fT=>?_)
   clear hK K hHeld
   have hHeld:=fT
   clear fT
   refine uD ?_
   have eX:Ext No V _:=hHeld
   have jR:Ext (At D) v (((v.setCell ⟨D,0,none⟩ (.int .i64 2)).setCell ⟨D,1,none⟩ (.slice (some ⟨q2,0,none⟩) 1 1)).setCell ⟨D,2,none⟩ (.slice (some ⟨q6,0,none⟩) 1 1)):=jw _ _ _ _ _
   go_wp2_with fail
   go_meet
   exact ⟨D,q2,q5,q6,g1,rfl,eX,(az (j:=2) (az (j:=1) (az (j:=0) d8))).trans rfl,aa (show fU _ g1 2 1 from jR.blk b1 (fun e=>nb1 e)),jR.blk s2 (fun e=>ns2 e),jR.blk a5 (fun e=>na5 e),jR.blk i6 (fun e=>ni6 e)⟩
 case rest=>
 obtain ⟨D,q2,q5,q6,g1,rfl,hx,hD,hb1,h2,h5,h6⟩:=hcut
 rename World=>wx
 have Kn:=aa (HX.af hx)
 have hW:=UA hb1 h2 h5 h6 (HA.step hx) (HK.step hx) (hx.blk HC ax)
 have HW:=aa hW
 have cD:=cellOf hD.out
 clear hW hx hb1 h2 h5 h6 HA HK HC HF HX
 go_wp2_with fail
 clear cD
 refine (Rc _ _ _ HW (HT.ext Kn)).mono ?_
 rintro e3 w3 ⟨vb1,Tx,rfl,hW3,hx3⟩
 obtain ⟨b,off,cap,a,c,kC,hc,hs⟩:=hW3.bnd.cells (i:=0) (by decide)
 subst kC
 obtain ⟨bi,oi,ki,aA,cA,kC,ga,-⟩:=hW3.Nn (i:=0) (by decide)
 subst kC
 go_upto_region 4 with (fail)
 have hx4:Ext No w3 (w3.alloc (.cells #[.int .i64 2,.slice (some ⟨b,off,none⟩) 1 cap,.slice (some ⟨bi,oi,none⟩) 1 ki] 26)):=(Ext.refl _ _).alloc _
 have HQ:=aa (ah (w:=w3) (o:= .cells #[.int .i64 2,.slice (some ⟨b,off,none⟩) 1 cap,.slice (some ⟨bi,oi,none⟩) 1 ki] 26) rfl)
 have Cb:=aa (hx4.keep (show w3.cell? ⟨bi,oi,none⟩=some (.slice aA 0 cA) from ga))
 have HCB:=aa (And.intro (hx4.keep (show w3.cell? ⟨b,off,none⟩=some (.int .i64 2) from hc.1)) (hx4.keep (show w3.cell? ⟨b,off+1,none⟩=some (.slice a (nw 2) c) from hc.2)))
 have NL:=aa (show aG No _ (.slice a (nw 2) c) 2 3 from hs.aj hx4)
 have pK:=aa (Kn.af (hx3.af hx4))
 clear hx3 hx4 ga hc hs hW3 Kn HW hD
 generalize World.alloc w3 _=w4 at*
 generalize w3.heap.size=bQ at*
 refine uW (fun w'=>Ext No w4 w') aS fun hHeld=>?_
 refine uO [0,1,2,3,4,5,6,7,8,9,10,11,12,13,14,15,16,17,18,19,20] ?_
 iterate 12 refine uT ?_ (hy:=D7)
 iterate 6 refine uT ?_ (hy:=(by intro w hSw;(have q0:=(show Ext No w4 _ from hSw).keep Cb);go_simp;(try with_reducible rfl)))
 iterate 2 refine uT ?_ (hy:=D7)
 refine uT ?_ (hy:=(by intro w hSw;(have x0:=(show Ext No w4 _ from hSw).keep HCB.1);(have x1:=(show Ext No w4 _ from hSw).keep HCB.2);go_simp;(try with_reducible rfl)))
 refine uZ ?_
 refine hHc 21 fun K hK=>?_
 (go_simp;(go_at_call 42);(refine (Ux _).mono ?_);(rintro e5 v1 ⟨g7,rfl,I5,_,aF⟩);go_simp)
 refine uK hK (Ext.af (show Ext No w4 _ from hHeld) aF) ?_
 clear hK K hHeld
 intro hHeld
 have NP:=aa (NL.aj ((show Ext No w4 _ from hHeld)))
 clear aF
 refine hHc 22 fun K hK=>?_
 (go_simp;(go_at_call 41);(refine (Uy 3 _ _ _ NP (fU.VV (show fU _ g7 2 3 from I5) (by decide) (by decide))).mono ?_);(rintro e6 v2 ⟨rfl,aF⟩);go_simp)
 refine uK hK (Ext.af (show Ext No w4 _ from hHeld) aF) ?_
 clear hK K hHeld
 intro hHeld
 refine uO [23,24] ?_
 iterate 2 refine uT ?_
 refine uZ ?_
 refine uD ?_
 go_wp2_with fail
 go_ret
 exact ⟨rfl,pK.af (show Ext No w4 _ from hHeld)⟩


import Derived.Test.YtmddchceacmopaaGreatDoorE25
set_option linter.unusedVariables false
set_option linter.unusedSimpArgs false
namespace Go.Proofs.YtmddchceacmopaaGreatDoor
open Go Go.RowKit
theorem xZ {p:Prop} (h:p:=by intro w hSw;(have x0:=cellOf ((show Ext No wx _ from hSw).blk HBX ax));go_simp;(try with_reducible rfl)):p:=h
theorem DY {p:Prop} (h:p:=by intro w hSw;(have x0:=(show Ext No wx _ from hSw).keep HG2);go_simp;(try with_reducible rfl)):p:=h
theorem DZ {p:Prop} (h:p:=by intro w hSw;(have x0:=(show Ext No wx _ from hSw).keep HQE);go_simp;(try with_reducible rfl)):p:=h
theorem Ot {p:Prop} (h:p:=by exact ((((show Ext No V _ from hHeld).own YX _).own YX _).own YX _)):p:=h
theorem D5 {p:Prop} (h:p:=by
 refine hHc 8 fun K hK=>?_
 ((have cS:=cellOf hOb.out);(have fS:=aH hOb.out);go_simp;(clear cS fS))
 refine uK hK Ot ?_
 clear hK K hHeld
 intro hHeld
 refine uD ?_
 have eX:Ext No V _:=hHeld
 go_wp2_with fail
 go_meet
 have jR:=VT v3 O (.int .i64 (S.w:Int)) (.slice aB S.deps.length cB) (.slice none 0 0)
 have hF3:=VU hOb (.int .i64 (S.w:Int)) (.slice aB S.deps.length cB) (.slice none 0 0)
 have aby:=Vu.out
 have II:=HX.af HE
 have hown:cZ kS (HP (PW W O) (.slice aB S.deps.length cB) (.slice none 0 0)) v3 (W.heap.size+2) (.slice aB S.deps.length cB) Lb:=⟨by rw [aby];exact dY Ym (by omega),fun p hp=>kS.ext (kS.mono (M':=fun b=>HP (PW W O) (.slice aB S.deps.length cB) (.slice none 0 0) b∨Value.ownBlock (.slice aB S.deps.length cB)=some b) (HYB.ok p hp) (fun i hi e=>by
  exfalso
  have h9:=Ym.out
  rcases e with (e|e|e)|e
  ·rcases e with e|e<;>omega
  ·have:=(World.ownsRow.lt h9 i e).1;omega
  ·cases e
  have:=(World.ownsRow.lt h9 i e).1;omega)) II (fun _ _ x=>x.elim)⟩
 exact ⟨O,aB,cB,rfl,aa ⟨HX.af eX,eX.blk HA ax,eX.blk HC ax,hF3,⟨hown.gG jR (fun i hi e=>hBO i hi e) (fun i _ e=> .inl (.inr e)),cZ.nil _ _ _ _,fun k hk e=>by cases e⟩,(fun k hk=>by
  rcases hk with hk|hk
  ·exact hBO k hk
  cases hk),by omega⟩⟩):p:=h
theorem D6 {p:Prop} (h:p:=by
 refine hHc 5 fun K hK=>?_
 ((refine zl _ (.tmp 14) (.tmp 16) 23 rfl 44 iS _ 2 32 Tryz.underlying23 Tv hS0 hS1 hS2 rfl (by omega) No ⟨EB,0,none⟩ 0 [] rfl (Row.nil _ _ _ _ _ (Nat.zero_le _)) No ab S.deps.length cb (Lb.flatMap kS.cells) rfl (by have h:=(HYB.aj (HX.af HE)).row;rw [Vu] at h;exact h) (by omega) (by omega) (by omega) ?_);(intro v9 w9 hown1 hg1);(have hy:Ext No v2 w9:=(Ext.refl _ _).grown hg1 (fun k hk _=>by cases hk));(simp only [Nat.zero_add,List.nil_append] at hown1);(obtain ⟨aB,cB,vK⟩:=(Row.bG (M:=No) hown1 (fun _ _ x=>x)).slice);(subst vK);(clear hg1))
 refine uK hK (HE.af hy) ?_
 clear hK K hHeld
 intro hHeld
 have Yn:V.heap.size≤v2.heap.size:=HE.size
 have hBO:=aa (show ∀k,Value.ownBlock (.slice aB S.deps.length cB)=some k→k≠O from fun k hk e=>by have h1:=(World.ownsRow.lt hown1 k hk).1;have h2:=lt_of_block hOb.out;omega)
 replace hOb:=aa (hy.blk hOb ax)
 replace HE:=aa (HE.af hy)
 have Ym:=aa (dY hown1 Yn)
 clear hown1 hy Yn
 generalize w9=v3 at*
 refine uA 6 ?_
 exact D5):p:=h
def Co (base:Nat) (W:World):Nat→Prop:=fun b=>b < base∨W.heap.size≤b
structure RO (base:Nat) (W wr:World) (O:Nat) (vB vI:Value) (LI:fe):Prop where
 r:∀p∈LI,wr.ownsRow (W.heap.size+2) 49 6 p.2 p.1.length (p.1.flatMap kA.cells)∧∀q∈p.1,kA.ok (Co base W) wr q
 br:∀p∈LI,∀k,p.2.ownBlock=some k→vB.ownBlock≠some k∧vI.ownBlock≠some k∧k≠O
 zN:∀i j (hi:i < LI.length) (hj:j < LI.length),i≠j→∀k,LI[i].2.ownBlock=some k→LI[j].2.ownBlock≠some k
section
variable {base O:Nat} {W wr w':World} {vB vI v':Value} {LI:fe} {L:LA} {v:Value}
theorem RO.nil:RO base W wr O vB vI []:=⟨fun p hp=>(List.not_mem_nil hp).elim,fun p hp=>(List.not_mem_nil hp).elim,fun i j hi=>absurd hi (Nat.not_lt_zero _)⟩
theorem RO.step {M:Nat→Prop} (h:RO base W wr O vB vI LI) (hx:Ext M wr w') (h1:∀i,i < wr.heap.size→M i→W.heap.size≤i) (h2:∀p∈LI,∀k,p.2.ownBlock=some k→¬M k):RO base W w' O vB vI LI:=
 ⟨fun p hp=>⟨aZ (h.r p hp).1 hx (h2 p hp),fun q hq=>kA.ext ((h.r p hp).2 q hq) hx (fun i hi e=> .inr (h1 i hi e))⟩,h.br,h.zN⟩
theorem RO.aC (h:RO base W wr O vB vI LI) (hx:Ext No wr w'):RO base W w' O vB vI LI:=h.step hx (fun _ _ e=>e.elim) (fun _ _ _ _ e=>e)
theorem RO.app (h:RO base W wr O vB vI LI) (hl:W.heap.size+2≤wr.heap.size) (hw:W.heap.size < O) (hO:O < wr.heap.size) (hvB:∀k,vB.ownBlock=some k→k < wr.heap.size) (hvI:∀k,vI.ownBlock=some k→k < wr.heap.size) (hx:Ext No wr w') (hown:w'.ownsRow wr.heap.size 49 6 v L.length (L.flatMap kA.cells)) (hok:∀q∈L,kA.ok (Co base W) w' q):RO base W w' O vB vI (LI++[(L,v)]):=by
 have h0:=h.aC hx
 have hlt:∀p∈LI,∀k,p.2.ownBlock=some k→k < wr.heap.size:=fun p hp k hk=>(World.ownsRow.lt (h.r p hp).1 k hk).2
 have hge:∀k,v.ownBlock=some k→wr.heap.size≤k:=fun k hk=>(World.ownsRow.lt hown k hk).1
 refine ⟨fun p hp=>?_,fun p hp k hk=>?_,fun i j hi hj hij k hk=>?_⟩
 ·rcases List.mem_append.1 hp with hp|hp
  ·exact h0.r p hp
  rw [List.mem_singleton.1 hp]
  exact ⟨dY hown hl,hok⟩
 ·rcases List.mem_append.1 hp with hp|hp
  ·exact h.br p hp k hk
  rw [List.mem_singleton.1 hp] at hk
  have h3:=hge k hk
  exact ⟨fun e=>by have:=hvB k e;omega,fun e=>by have:=hvI k e;omega,by omega⟩
 rw [List.length_append,List.length_singleton] at hi hj
 rw [List.getElem_append] at hk ⊢
 by_cases e1:i < LI.length
 ·rw [dif_pos e1] at hk
  by_cases e2:j < LI.length
  ·rw [dif_pos e2];exact h.zN i j e1 e2 hij k hk
  rw [dif_neg e2]
  simp only [List.getElem_singleton]
  exact fun e=>by have:=hge k e;have:=hlt _ (List.getElem_mem e1) k hk;omega
 rw [dif_neg e1] at hk
 simp only [List.getElem_singleton] at hk
 have h3:=hge k hk
 by_cases e2:j < LI.length
 ·rw [dif_pos e2];exact fun e=>by have:=hlt _ (List.getElem_mem e2) k e;omega
 omega
theorem RO.grow (h:RO base W wr O vB vI LI) (hl:W.heap.size+2≤wr.heap.size) (Kq:∀k,vI.ownBlock=some k→W.heap.size≤k) (hg:wr.grownBy w' vI.ownBlock) (hv:v'.ownBlock=vI.ownBlock∨v'.ownBlock=some wr.heap.size):RO base W w' O vB v' LI:=by
 have hx:Ext (fun k=>vI.ownBlock=some k) wr w':=(Ext.refl _ wr).grown hg (fun k hk _=>hk)
 have h0:=h.step hx (fun i _ e=>Kq i e) (fun p hp k hk e=>(h.br p hp k hk).2.1 e)
 refine ⟨h0.r,fun p hp k hk=>⟨(h.br p hp k hk).1,fun e=>?_,(h.br p hp k hk).2.2⟩,h0.zN⟩
 rcases hv with hv|hv
 ·rw [hv] at e;exact (h.br p hp k hk).2.1 e
 rw [hv] at e;simp only [Option.some.injEq] at e;have:=(World.ownsRow.lt (h.r p hp).1 k hk).2;omega
end
def Q9 (base:Nat) (S:mU) (W:World) (e:Ending) (w':World):Prop:=
 ∃(vB vI:Value) (LB:LS) (RL:fe),e= .returned (.tuple #[.agg #[.int .i64 (S.w:Int),vB,vI],.int .i64 0])∧Hid (jk w' base w'.heap.size vB vI LB RL)∧Hid (LB.map Prod.fst=S.bnd.map (bJ S.w))∧Hid (RL.length=S.deps.length)∧Hid (∀i (h:i < RL.length),RL[i].1.map fJ=mF S i)∧Ext No W w'
theorem XI {base O:Nat} {S:mU} {W wr w':World} {vd vt vb vB vI:Value} {cO:Array Value} {LB:LS} {LI:fe} (h:IZ W wr O S vd vt vb vB vI cO LB LI) (hR:RO base W wr O vB vI LI) (hB:∀p∈LB,kS.ok (Co base W) wr p) (hb:base≤W.heap.size) (hx:Ext (At (W.heap.size+1)) wr w'):jk w' base w'.heap.size vB vI LB LI:=by
 have hs:=hx.size
 have hs0:=h.ext.size
 have hlow:=h.low
 have hlB:∀k,vB.ownBlock=some k→W.heap.size+2≤k∧k < wr.heap.size:=fun k hk=>h.two.b.lt k hk
 have Kq:∀k,vI.ownBlock=some k→W.heap.size+2≤k∧k < wr.heap.size:=fun k hk=>h.two.c.lt k hk
 have hlR:∀p∈LI,∀k,p.2.ownBlock=some k→W.heap.size+2≤k∧k < wr.heap.size:=fun p hp k hk=>World.ownsRow.lt (hR.r p hp).1 k hk
 have hout:∀i,i < w'.heap.size→(dW vB vI LI w'.heap.size base i∨False)→Co base W i:=fun i hi e=>by
  rcases e with (e|e|e|⟨p,hp,e⟩|e)|e
  ·exact .inl e
  ·exact .inr (by have:=(hlB i e).1;omega)
  ·exact .inr (by have:=(Kq i e).1;omega)
  ·exact .inr (by have:=(hlR p hp i e).1;omega)
  ·omega
  exact e.elim
 have hno:∀k,W.heap.size+2≤k→¬At (W.heap.size+1) k:=fun k h1 e=>by unfold At at e;omega
 refine ⟨by omega,Nat.le_refl _,⟨dY (aZ h.two.b.own hx (fun k hk=>hno k (hlB k hk).1)) (by omega),fun p hp=>?_⟩,?_,fun p hp=>⟨dY (aZ (hR.r p hp).1 hx (fun k hk=>hno k (hlR p hp k hk).1)) (by omega),fun q hq=>?_⟩,h.two.bc,fun p hp k hk=>⟨(hR.br p hp k hk).1,(hR.br p hp k hk).2.1⟩,hR.zN,fun k hk=>by have:=(hlB k hk).2;omega,fun k hk=>by have:=(Kq k hk).2;omega,fun p hp k hk=>by have:=(hlR p hp k hk).2;omega⟩
 ·refine kS.mono (kS.ext (hB p hp) hx (fun i _ e=> .inr (by unfold At at e;omega))) (fun i hi e=>?_)
  rcases e with e|e
  ·exact hout i hi (.inl e)
  exact .inr (by have:=(hlB i e).1;omega)
 ·have h1:=dY (aZ h.two.c.own hx (fun k hk=>hno k (Kq k hk).1)) (show base≤W.heap.size+2 by omega)
  rw [qX] at h1
  exact h1
 refine kA.mono (kA.ext ((hR.r p hp).2 q hq) hx (fun i _ e=> .inr (by unfold At at e;omega))) (fun i hi e=>?_)
 rcases e with e|e
 ·exact hout i hi (.inl e)
 exact .inr (by have:=(hlR p hp i e).1;omega)
set_option maxRecDepth 100000 in
set_option maxHeartbeats 16000000 in
theorem Ou (base:Nat) (S:mU) (vd vt vb:Value) (W:World) (hb:base≤W.heap.size) (hB:ja (Lo base) W vd vt vb S):
  Calls Tryz.prog 21 #[.agg #[.int .i64 (S.w:Int),vd,vt,vb]] W (Q9 base S W):=by
 have h:=hB.no
 have qM:=aa hB
 obtain ⟨iS,Tv,hS0,hS1,hS2⟩:=info_parts yZ
 obtain ⟨iA,um,rC,hA1,hA2⟩:=info_parts Hf
 obtain ⟨iL,GX,hL0,hL1,hL2⟩:=info_parts QK
 have H:=aa h
 have hok:=h.ok
 have Ac:=aa hok
 have HBW:=aa hb
 clear hb
 have hnn:=hok.n2
 have hn1:=hok.n1
 have hww:=hok.w
 obtain ⟨Ld0,Lt0,Lb,hY,-,-,hbm⟩:=hB.ex
 have hbl:Lb.length=S.deps.length:=by have:=congrArg List.length hbm;simp only [List.length_map] at this;rw [this,hok.lb]
 have Vu:=aa hbl
 have HBM:=aa hbm
 obtain ⟨ad,cd,MG,ct,ab,cb,rfl,rfl,rfl⟩:=h.slices
 have HYB:=aa hY.b.no
 have HYO:=aa (show ∀p∈Lb,kS.ok (Co base W) W p from fun p hp=>kS.mono (hY.b.ok p hp) (fun i hi e=>e.elim id (fun e=>absurd hi (by omega))))
 clear h hB hok hY hbm hbl
 go_enter Tryz.func21,Tryz.ntmps21
 go_wp2_with fail
 have hx0:Ext No W ((W.alloc (.cells #[.int .i64 (S.w:Int),.slice ad S.deps.length cd,.slice MG S.deps.length ct,.slice ab S.deps.length cb] 55)).alloc (.cells #[.int .i64 0,.slice none 0 0,.slice none 0 0] 26)):=((Ext.refl _ _).alloc _).alloc _
 have HA0:=aa (zK hx0)
 have HC0:=aa (zM hx0)
 generalize World.alloc (World.alloc W _) _=w2 at*
 refine (Ct S _ _ _ _ (H.aj hx0)).mono ?_
 rintro e1 V ⟨rfl,hx1⟩
 have HX:=aa (hx0.af hx1)
 have HA:=aa (hx1.blk HA0 ax)
 have HC:=aa (hx1.blk HC0 ax)
 have hlV:=lt_of_block HC.out
 clear hx0 hx1 HA0 HC0
 go_upto_region 3 with (fail)
 go_cut [4] (fun s4 wx=>∃(O:Nat) (aB:Option Addr) (cB:Nat),s4= .pointer (some ⟨O,0,none⟩)∧Hid (IZ W wx O S (.slice ad S.deps.length cd) (.slice MG S.deps.length ct) (.slice ab S.deps.length cb) (.slice aB S.deps.length cB) (.slice none 0 0) #[.int .i64 (S.w:Int),.slice aB S.deps.length cB,.slice none 0 0] Lb []))
 case first=>
  refine uW (fun w'=>Ext No V w') aS fun hHeld=>?_
  have HE:=aa (show Ext No V V.drew from (Ext.refl _ _).drew)
  generalize V.drew=v0 at*
  refine uO [0,1,3,4] ?_
  iterate 4 refine uT ?_ (hy:=Dc)
  refine uZ ?_
  refine aN (i:=2) (j:=7) (by kernel_rfl) (aD.mk rfl rfl (fun K hK=>?_)) (aD.mk rfl rfl (fun K hK=>?_))
  ·go_simp
   refine uK hK nA ?_
   clear hK K hHeld
   intro hHeld
   have hy:=(Ext.refl No v0).alloc (.cells #[] 44)
   replace HE:=aa (HE.af hy)
   clear hy
   generalize World.alloc v0 _=v1 at*
   generalize v0.heap.size=EB at*
   refine aN (i:=5) (j:=7) (by kernel_rfl) (aD.mk rfl rfl (fun K hK=>?_)) (aD.mk rfl rfl (fun K hK=>?_))
   ·((refine zl _ (.tmp 14) (.tmp 16) 23 rfl 44 iS _ 2 32 Tryz.underlying23 Tv hS0 hS1 hS2 rfl (by omega) No ⟨EB,0,none⟩ 0 [] rfl (Row.nil _ _ _ _ _ (Nat.zero_le _)) No ab S.deps.length cb (Lb.flatMap kS.cells) rfl (by have h:=(HYB.aj (HX.af HE)).row;rw [Vu] at h;exact h) (by omega) (by omega) (by omega) ?_);(intro v9 w9 hown1 hg1);(have hy:Ext No v1 w9:=(Ext.refl _ _).grown hg1 (fun k hk _=>by cases hk));(simp only [Nat.zero_add,List.nil_append] at hown1);(obtain ⟨aB,cB,vK⟩:=(Row.bG (M:=No) hown1 (fun _ _ x=>x)).slice);(subst vK);(clear hg1))
    refine uK hK (HE.af hy) ?_
    clear hK K hHeld
    intro hHeld
    have Yn:V.heap.size≤v1.heap.size:=HE.size
    replace HE:=aa (HE.af hy)
    have Ym:=aa (dY hown1 Yn)
    clear hown1 hy Yn
    generalize w9=v2 at*
    refine uA 6 ?_
    refine hHc 7 fun K hK=>?_
    go_simp
    refine uK hK nA ?_
    clear hK K hHeld
    intro hHeld
    have hy:=(Ext.refl No v2).alloc (.cells #[.int .i64 0,.slice none 0 0,.slice none 0 0] 26)
    have YX:V.heap.size≤v2.heap.size:=HE.size
    have hBO:=aa (show ∀k,Value.ownBlock (.slice aB S.deps.length cB)=some k→k≠v2.heap.size from fun k hk e=>by have:=(World.ownsRow.lt Ym k hk).2;omega)
    replace Ym:=aa (dG Ym hy (fun _ _ x=>x))
    replace HE:=aa (HE.af hy)
    clear hy
    have hOb:=aa (ah (w:=v2) (o:=(.cells #[.int .i64 0,.slice none 0 0,.slice none 0 0] 26)) rfl)
    generalize World.alloc v2 _=v3 at*
    generalize v2.heap.size=O at*
    exact D5
   go_simp
   refine uK hK nA ?_
   clear hK K hHeld
   intro hHeld
   have hy:=(Ext.refl No v1).alloc (.cells #[.int .i64 0,.slice none 0 0,.slice none 0 0] 26)
   have YX:V.heap.size≤v1.heap.size:=HE.size
   replace HE:=aa (HE.af hy)
   clear hy
   have hOb:=aa (ah (w:=v1) (o:=(.cells #[.int .i64 0,.slice none 0 0,.slice none 0 0] 26)) rfl)
   generalize World.alloc v1 _=v2 at*
   generalize v1.heap.size=O at*
   exact D6
  go_simp
  refine uK hK nA ?_
  clear hK K hHeld
  intro hHeld
  have hy:=(Ext.refl No v0).alloc (.cells #[.int .i64 0,.slice none 0 0,.slice none 0 0] 26)
  have YX:V.heap.size≤v0.heap.size:=HE.size
  replace HE:=aa (HE.af hy)
  clear hy
  have hOb:=aa (ah (w:=v0) (o:=(.cells #[.int .i64 0,.slice none 0 0,.slice none 0 0] 26)) rfl)
  generalize World.alloc v0 _=v1 at*
  generalize v0.heap.size=O at*
  refine hHc 2 fun K hK=>?_
  go_simp
  refine uK hK nA ?_
  clear hK K hHeld
  intro hHeld
  have hy:=(Ext.refl No v1).alloc (.cells #[] 44)
  replace hOb:=aa (hy.blk hOb ax)
  replace HE:=aa (HE.af hy)
  clear hy
  generalize World.alloc v1 _=v2 at*
  generalize v1.heap.size=EB at*
  exact D6
 case rest=>
  obtain ⟨O,aB,cB,rfl,hm⟩:=hcut
  rename World=>wq
  clear HX HA HC hlV
  go_wp2_with fail
  go_loopw [5,6,7] (fun s5 _ _ wr=>∃(k:Nat) (vI:Value) (LI:List (LA×Value)),s5= .int .i64 k∧k≤S.deps.length∧Hid (IZ W wr O S (.slice ad S.deps.length cd) (.slice MG S.deps.length ct) (.slice ab S.deps.length cb) (.slice aB S.deps.length cB) (vI) #[.int .i64 (S.w:Int),.slice aB S.deps.length cB,vI] Lb LI)∧Hid (LI.length=k)∧Hid (∀i (h:i < LI.length),LI[i].1.map fJ=mF S i)∧Hid (RO base W wr O (.slice aB S.deps.length cB) vI LI)) (fun s5 _ _ _=>S.deps.length - (intOf s5).toNat)
  case atStart=>exact ⟨0,_,[],rfl,Nat.zero_le _,hm,rfl,aa (fun i h=>absurd h (Nat.not_lt_zero _)),RO.nil⟩
  clear hm
  obtain ⟨k,vI,LI,rfl,hk,hm,WB,hIN,HRO⟩:=hrel
  rename World=>wr
  obtain ⟨a2,c2,e2⟩:=hm.two.c.slice
  rw [WB] at e2
  subst e2
  have cA:=cellOf hm.vO
  by_cases hlt:k < S.deps.length
  ·have hlz:(k:Int) < (S.deps.length:Int):=by omega
   have HKK:Hid (Value.int .i64 ((k:Int)+1)= .int .i64 ((k+1:Nat):Int)):=aa (by rw [show ((k+1:Nat):Int)=(k:Int)+1 from by omega])
   obtain ⟨bd,od,kd,ae,ce,kC,gd,hints⟩:=(H.aj hm.ext).dep hlt
   simp only [Value.slice.injEq] at kC
   obtain ⟨rfl,-,rfl⟩:=kC
   obtain ⟨n,hn⟩:∃n,n=(kP S k).length:=⟨_,rfl⟩
   have HN:=aa hn
   rw [←hn] at hints gd
   have HGD:=aa gd
   clear hn gd
   have hn8:n≤256:=by
    have h1:=HN.out
    have h2:(dh (kP S k)).length=n:=by rw [h1];simp [dh]
    rcases Nat.eq_zero_or_pos n with h0|h0
    ·omega
    have h3:=Hw (Uv Ac hlt) (by rw [h2];exact h0)
    rw [h2] at h3
    omega
   go_wp2_with fail
   clear cA
   go_loopw [6,7] (fun s6 s7 wx=>∃(j:Nat) (L:LA),s7= .int .i64 j∧j≤n∧Hid (cZ kA (HP (PW W O) (.slice aB S.deps.length cB) (.slice a2 k c2)) wx wr.heap.size s6 L)∧Hid (L.map fJ=(mF S k).take j)∧Hid (Ext No wr wx)∧Hid (∀q∈L,kA.ok (Co base W) wx q)) (fun _ s7 _=>n - (intOf s7).toNat)
   case atStart=>exact ⟨0,[],rfl,Nat.zero_le _,cZ.nil _ _ _ _,rfl,Ext.refl _ _,aa (fun q hq=>(List.not_mem_nil hq).elim)⟩
   obtain ⟨j,L,rfl,hj,hown,hLM,hx,HQK⟩:=hrel
   rename World=>wx
   have hlA:Hid (L.length=j):=aa (by have:=congrArg List.length hLM.out;have h2:=HN.out;rw [List.length_map,List.length_take] at this;simp only [mF,List.length_map] at this;omega)
   obtain ⟨s1,t1,hs7⟩:=hown.slice
   rw [hlA] at hs7
   subst hs7
   have cA:=cellOf (hx.blk hm.vO ax)
   have gd:=hx.keep HGD
   by_cases hlt2:j < n
   ·have hjz:(j:Int) < (n:Int):=by omega
    have Sk:Hid (Value.int .i64 ((j:Int)+1)= .int .i64 ((j+1:Nat):Int)):=aa (by rw [show ((j+1:Nat):Int)=(j:Int)+1 from by omega])
    have hjd:j < (kP S k).length:=by have:=HN.out;omega
    obtain ⟨m,Vq⟩:∃m,m=(kP S k)[j]:=⟨_,rfl⟩
    have hmd:m < S.deps.length:=Ac.dep (i:=k) (by rw [Vq];exact List.getElem_mem hjd)
    have hmz:(m:Int) < (S.deps.length:Int):=by omega
    have HMJ:Hid (∃hjd:j < (kP S k).length,m=(kP S k)[j]):=aa ⟨hjd,Vq⟩
    have Xg:j < (dh (kP S k)).length:=by simp [dh,hjd]
    obtain ⟨be,oe,ke,kC,hb1,-,hce⟩:=Ints.at (Row.aj hints hx) Xg
    simp only [Value.slice.injEq] at kC
    obtain ⟨rfl,-,rfl⟩:=kC
    have qe:=hce j Xg
    rw [show (dh (kP S k))[j]=(m:Int) from by simp [dh,Vq]] at qe
    obtain ⟨bt,ot,kt,ag,cg,ak,ck,ac,nc,cc,kC,gt,BF,pI⟩:=H.tr hmd
    simp only [Value.slice.injEq] at kC
    obtain ⟨rfl,-,rfl⟩:=kC
    obtain ⟨q0,q1,q2,q3,q4⟩:=gt
    have IJ:=hm.ext.af hx
    have HTC:=aa (And.intro (IJ.keep q0) (And.intro (IJ.keep q1) (And.intro (IJ.keep q2) (And.intro (IJ.keep q3) (IJ.keep q4)))))
    have HQE:=aa qe
    have HG2:=aa gd
    have HBX:=aa (hx.blk hm.vO ax)
    have HRW:=aa (show bN (fun b=>HP (PW W O) (.slice aB S.deps.length cB) (.slice a2 k c2) b∨Value.ownBlock (.slice s1 j t1)=some b) wx (.slice ag (nw S.w) cg) (.slice ak (nw S.w) ck) (.slice ac nc cc) (bM (xR S m)) from by
     have h:=BF.out
     have h1:=QL pI (by have h:=h.gen;rw [pI] at h;exact h) (by have h:=h.kill;rw [pI] at h;exact h) h.copies
     refine (h1.mono (M':=fun b=>HP (PW W O) (.slice aB S.deps.length cB) (.slice a2 k c2) b∨Value.ownBlock (.slice s1 j t1)=some b) (fun i hi e=>?_)).aj IJ
     exfalso
     have hlo:=hm.low
     rcases e with (e|e|e)|e
     ·rcases e with e|e<;>omega
     ·have:=(hm.two.b.lt i e).1;omega
     ·have:=(hm.two.c.lt i e).1;omega
     have:=(hown.lt i e).1;have:=hm.ext.size;omega)
    have YY:=aa (show bN (Co base W) wx (.slice ag (nw S.w) cg) (.slice ak (nw S.w) ck) (.slice ac nc cc) (bM (xR S m)) from by
     obtain ⟨bt2,ot2,kt2,pY,cg2,xL,ck2,xM,xN,xO,aaa,gt2,abz,acY⟩:=qM.tr hmd
     simp only [Value.slice.injEq,Option.some.injEq,Addr.mk.injEq,and_true,true_and] at aaa
     obtain ⟨⟨rfl,rfl⟩,rfl⟩:=aaa
     obtain ⟨r0,r1,r2,r3,r4⟩:=gt2
     have e1:=r1.symm.trans q1
     have e3:=r3.symm.trans q3
     have e4:=r4.symm.trans q4
     simp only [Option.some.injEq,Value.slice.injEq] at e1 e3 e4
     obtain ⟨rfl,-,rfl⟩:=e1
     obtain ⟨rfl,-,rfl⟩:=e3
     obtain ⟨rfl,rfl,rfl⟩:=e4
     have h:=abz.out
     have h1:=QL pI (by have h:=h.gen;rw [pI] at h;exact h) (by have h:=h.kill;rw [pI] at h;exact h) h.copies
     exact (h1.mono (M':=Co base W) (fun i hi e=>e.elim id (fun e=>absurd hi (by omega)))).aj IJ)
    clear Vq hjd hce Xg hb1 q0 q1 q2 q3 q4 IJ BF
    go_upto_region 11 with (fail)
    clear qe cA gd
    refine aL [23] (fun w'=>Ext No wx w') (by kernel_rfl) ?_ (fun hHeld=>?_)
    ·exact bX
    have HE:=aa (show Ext No wx wx.drew from (Ext.refl _ _).drew)
    generalize wx.drew=v0 at*
    refine uJ [0,1,2,3,4,5,6,7,8,9,10,11,12,13,14,15,16,17,18,19,20,21] hHeld ?_
    clear hHeld
    iterate 2 refine uF ?_
    refine uL ?_ (hy:=xZ)
    iterate 2 refine uF ?_
    refine uL ?_ (hy:=DY)
    iterate 2 refine uF ?_
    refine uL ?_ (hy:=DZ)
    refine uF ?_
    refine uL ?_ (hy:=xZ)
    refine uF ?_
    refine uL ?_ (hy:=xZ)
    iterate 2 refine uF ?_
    refine uL ?_ (hy:=DY)
    iterate 2 refine uF ?_
    refine uL ?_ (hy:=DZ)
    refine uF ?_
    refine uL ?_ (hy:=(by intro w hSw;(obtain ⟨p0,p1,p2,p3,p4⟩:=HTC.out);(have x0:=(show Ext No wx _ from hSw).keep p0);(have x1:=(show Ext No wx _ from hSw).keep p1);(have x2:=(show Ext No wx _ from hSw).keep p2);(have x3:=(show Ext No wx _ from hSw).keep p3);(have x4:=(show Ext No wx _ from hSw).keep p4);go_simp;(try with_reducible rfl)))
    refine uF ?_
    refine uZ fun hHeld=>?_
    refine uN 22 fun K hK=>?_
    go_simp
    refine uK hK fF ?_
    clear hK K hHeld
    intro hHeld
    have vJ:=(Ext.refl No v0).alloc (.cells #[.int .i64 (m:Int),.int .i64 (S.w:Int),.slice ag (nw S.w) cg,.int .i64 (S.w:Int),.slice ak (nw S.w) ck,.slice ac nc cc] 49)
    have CE:=aa (ah (w:=v0) (o:=(.cells #[.int .i64 (m:Int),.int .i64 (S.w:Int),.slice ag (nw S.w) cg,.int .i64 (S.w:Int),.slice ak (nw S.w) ck,.slice ac nc cc] 49)) rfl)
    replace HE:=aa (HE.af vJ)
    clear vJ
    generalize World.alloc v0 _=v1 at*
    generalize v0.heap.size=BL at*
    refine uN 23 fun K hK=>?_
    ((have hb8:=hx.size);(have pM:=HE.size);(refine jY _ (.tmp 36) (.tmp 58) 40 rfl wr.heap.size 49 iA _ 6 96 Tryz.underlying40 um rC hA1 hA2 rfl (by omega) (.slice s1 j t1) j (L.flatMap kA.cells) rfl (by have h:=(hown.aj HE).own;rw [hlA] at h;exact h) No (some ⟨BL,0,none⟩) 1 1 [.int .i64 (m:Int),.int .i64 (S.w:Int),.slice ag (nw S.w) cg,.int .i64 (S.w:Int),.slice ak (nw S.w) ck,.slice ac nc cc] rfl (Row.block CE rfl ax (by omega)) (by simp [Value.oneCell']) (by omega) (by omega) (by omega) ?_);(intro v9 w9 hown1 hg1 hv1))
    refine uK hK bz ?_
    clear hK K hHeld
    intro hHeld
    have kU:Ext (fun bq=>Value.ownBlock (.slice s1 j t1)=some bq) v1 w9:=(Ext.refl _ _).grown hg1 (fun bq hk _=>hk)
    have hce:kA.cells ((m:Int),bM (xR S m),Value.slice ag (nw S.w) cg,Value.slice ak (nw S.w) ck,Value.slice ac nc cc)=[.int .i64 (m:Int),.int .i64 (S.w:Int),.slice ag (nw S.w) cg,.int .i64 (S.w:Int),.slice ak (nw S.w) ck,.slice ac nc cc]:=by
     show [Value.int .i64 (m:Int),.int .i64 ((xR S m).w:Int),_,.int .i64 ((xR S m).w:Int),_,_]=_
     rw [pI]
    have hO9:=aa ((hown.aj HE).app (p:=((m:Int),bM (xR S m),Value.slice ag (nw S.w) cg,Value.slice ak (nw S.w) ck,Value.slice ac nc cc)) (HRW.aj HE) (by rw [hlA,hce];exact hown1) kU (fun _ e=>e) (hv1.imp id (fun hv k hk=>by rw [hv] at hk;simp only [Option.some.injEq] at hk;omega)))
    have Sl:=aa ((hx.af HE).aJ kU (fun i hi e=>by have:=(hown.lt i e).1;omega))
    have hQ9:=aa (show ∀q∈L++[((m:Int),bM (xR S m),Value.slice ag (nw S.w) cg,Value.slice ak (nw S.w) ck,Value.slice ac nc cc)],kA.ok (Co base W) w9 q from fun q hq=>by
     have hbs:=hm.ext.size
     refine kA.ext (M:=Co base W) ?_ (HE.lM.trans kU) (fun i hi e=> .inr (by have:=(hown.lt i e).1;omega))
     rcases List.mem_append.1 hq with hq|hq
     ·exact HQK q hq
     rw [List.mem_singleton.1 hq];exact YY)
    clear kU hown1 hg1 hv1 CE hce HE
    generalize w9=v2 at*
    refine uJ [24] hHeld ?_
    clear hHeld
    refine uF ?_
    refine uZ fun hHeld=>?_
    refine uE ?_
    go_wp2_with fail
    go_roundw
    case rel=>exact ⟨j+1,L++[((m:Int),bM (xR S m),Value.slice ag (nw S.w) cg,Value.slice ak (nw S.w) ck,Value.slice ac nc cc)],Sk,by omega,hO9,HMJ.elim fun h1 h2=>Ov hLM h1 h2 rfl,Sl,hQ9⟩
    case measure=>simp [intOf];omega
   have hge:¬(j:Int) < (n:Int):=by omega
   have hjn:j=n:=by omega
   subst hjn
   have xP:=aa (show L.map fJ=mF S k from by rw [hLM,List.take_of_length_le (by have:=HN.out;simp [mF];omega)])
   have Tw:=aa (show jb kA (HP (PW W O) (.slice aB S.deps.length cB) (.slice a2 k c2)) wx (.slice s1 j t1) L from hown.uy (fun b hb e=>by have h1:=(hown.lt b hb).1;have h2:=hm.hot b e;omega) (fun _ e=>e))
   have I4:=aa (hm.aC hx)
   have YZ:=aa (show RO base W wx O (.slice aB S.deps.length cB) (.slice a2 k c2) (LI++[(L,.slice s1 j t1)]) from HRO.app (by have h1:=lt_of_block hm.lN;omega) (by have:=hm.low;omega) (lt_of_block hm.Ag) (fun k hk=>(hm.two.b.lt k hk).2) (fun k hk=>(hm.two.c.lt k hk).2) hx (by have h9:=hown.own;exact h9) HQK)
   clear hown hLM hm HRO HQK
   have cX:=cellOf I4.Ag
   go_wp2_with (at_builtin;(refine bE _ rfl (.tmp 61) (.tmp 63) 24 rfl (W.heap.size+2) 40 iL _ 1 24 Tryz.underlying24 GX hL0 hL1 hL2 rfl (by omega) (.slice a2 k c2) k (LI.flatMap kL.cells) rfl (by have h:=(I4.out.aC ((Ext.refl No wx).alloc (.cells #[.slice s1 j t1] 40))).two.c.own;rw [WB.out] at h;exact h) No (some ⟨wx.heap.size,0,none⟩) 1 1 [.slice s1 j t1] rfl (Row.block (ah rfl) rfl ax (by omega)) (by simp [Value.oneCell']) (by omega) (by omega) (by have h1:=lt_of_block I4.out.lN;have h2:=lt_of_block I4.out.Ag;have h3:=I4.out.low;simp;omega) ?_);(intro v9 w9 hown1 hg1 hv1);(have Y0:=aa ((I4.out.aC ((Ext.refl No wx).alloc (.cells #[.slice s1 j t1] 40))).abA (q:=(L,.slice s1 j t1)) (Tw.out.aj ((Ext.refl No wx).alloc (.cells #[.slice s1 j t1] 40))) (by rw [WB.out];exact hown1) hg1 hv1));(have IC:=aa ((YZ.out.aC ((Ext.refl No wx).alloc (.cells #[.slice s1 j t1] 40))).grow (by have h1:=lt_of_block I4.out.lN;simp;omega) (fun k hk=>by have:=(I4.out.two.c.lt k hk).1;omega) hg1 hv1));(obtain ⟨xI,yI,aab⟩:=Y0.out.two.c.slice);(rw [List.length_append,WB.out] at aab);(subst aab);(clear cX hown1 hg1 hv1);(have cX:=cellOf Y0.out.Ag);(have fX:=aH Y0.out.Ag))
   go_roundw
   case rel=>exact ⟨k+1,_,_,HKK,by omega,Y0.abB 2 _,aa (by rw [List.length_append,WB];rfl),Ra hIN.out WB.out xP.out,IC.step (show Ext (At O) _ _ from (Ext.refl (At O) _).setAt _ _) (fun i _ e=>by have:=Y0.low;unfold At at e;omega) (fun p hp k hk e=>(IC.br p hp k hk).2.2 e)⟩
   case measure=>simp [intOf];omega
  have hge:¬(k:Int) < (S.deps.length:Int):=by omega
  have hkn:k=S.deps.length:=by omega
  subst hkn
  have cO:=cellOf hm.Ag
  have cR:=cellOf hm.lN
  have fR:=aH hm.lN
  have hE2:=VT wr (W.heap.size+1) (.int .i64 (S.w:Int)) (.slice aB S.deps.length cB) (.slice a2 S.deps.length c2)
  have hbF:=VU hm.lN (.int .i64 (S.w:Int)) (.slice aB S.deps.length cB) (.slice a2 S.deps.length c2)
  go_wp2_with fail
  generalize World.setCell (World.setCell (World.setCell wr _ _) _ _) _ _=WF at*
  have cF:=cellOf hbF
  refine aW rfl ?_
  simp [results,Tryz.results21,go_sem,cF]
  exact ⟨_,_,Lb,LI,rfl,XI hm HRO (fun p hp=>kS.ext (HYO p hp) hm.ext (fun _ _ e=>e.elim)) HBW hE2,HBM,WB,hIN,hm.ext.aJ hE2 (fun i hi e=>by unfold At at e;omega)⟩


import Derived.Test.YtmddchceacmopaaGreatDoorHeld
set_option linter.unusedVariables false
set_option linter.unusedSimpArgs false
namespace Go.Proofs.YtmddchceacmopaaGreatDoor
open Go
theorem F5 {p:Prop} (h:p:=by
 subst hji;exact hy.wpOp hi ⟨listed,hcl,(mem_ready.1 hr).1,hS⟩ ⟨(hSi _ _).2 hS,H⟩):p:=h
section
variable {P:Program} {ops:Array Oper} {Q:Exit→Act→World→Prop} {md:Region.Mode} {S:Array Bool→World→Prop}
def Closed (md:Region.Mode) (ops:Array Oper) (L:Array Bool):Prop:=
 ∀(j:Nat) (o:Oper),ops[j]? =some o→L.getD j false=true→∀e∈o.after,Region.binds md e=true→L.getD e.on false=true
def rQ (md:Region.Mode) (ops:Array Oper) (L:Array Bool):Bool:=
 (List.range ops.size).all fun j=> !L.getD j false||match ops[j]? with
  |some o=>o.after.all fun e=> !Region.binds md e||L.getD e.on false
  |none=>true
theorem xk {L:Array Bool} (h:rQ md ops L=true):Closed md ops L:=fun j o ho hj e he hb=>by
 simp only [rQ,List.all_eq_true,List.mem_range] at h
 have h1:=h j (Array.getElem?_eq_some_iff.1 ho).1
 rw [hj,ho] at h1
 simp only [Bool.not_true,Bool.false_or] at h1
 have h2:=Array.all_eq_true'.1 h1 e he
 rw [hb] at h2
 simpa using h2
theorem Closed.step {L:Array Bool} {i:Nat} (h:Closed md ops L) (hr:i∈Region.ready md ops L):Closed md ops (L.setIfInBounds i true):=fun j o ho hj e he hb=>by
 by_cases hij:i=j
 ·subst hij
  obtain ⟨_,o',ho',hall⟩:=mem_ready.1 hr
  obtain rfl:=Option.some.inj (ho.symm.trans ho')
  exact getD_set_true (hall e he hb)
 rw [getD_set_ne false hij] at hj
 exact getD_set_true (h j o ho hj e he hb)
def xK (md:Region.Mode) (ops:Array Oper) (i:Nat):Nat→Nat→Bool
 |0,_=>false
 |n+1,s=>match ops[s]? with
  |none=>false
  |some o=>o.after.any fun e=>Region.binds md e&&(e.on==i||xK md ops i n e.on)
theorem Bl {L:Array Bool} {i:Nat} (h:Closed md ops L):∀n s,xK md ops i n s=true→L.getD s false=true→L.getD i false=true
 |0,s,hw,_=>by simp [xK] at hw
 |n+1,s,hw,hs=>by
  rw [xK] at hw
  cases ho:ops[s]? with
  |none=>rw [ho] at hw;cases hw
  |some o=>
   rw [ho] at hw
   obtain ⟨e,he,hb⟩:=Array.any_eq_true'.1 hw
   simp only [Bool.and_eq_true,Bool.or_eq_true,beq_iff_eq] at hb
   have h1:=h s o ho hs e he hb.1
   rcases hb.2 with h2|h2
   ·rw [←h2];exact h1
   exact Bl h n e.on h2 h1
def wpAnyL (P:Program) (md:Region.Mode) (ops:Array Oper) (Q:Exit→Act→World→Prop) (S:Array Bool→World→Prop):Nat→Array Bool→Act→World→Prop
 |0,listed,a,w=>Region.ready md ops listed=[]∧Q .normal a w
 |fuel+1,listed,a,w=>
  (Region.ready md ops listed=[]→Q .normal a w)∧
  ∀i∈Region.ready md ops listed,wpOp P ops Q i (fun a' w'=>S (listed.setIfInBounds i true) w'∧wpAnyL P md ops Q S fuel (listed.setIfInBounds i true) a' w') a w
theorem Bn:∀(fuel:Nat) (listed:Array Bool) (a:Act) (w:World),wpAnyL P md ops Q S fuel listed a w→wpAny P md ops Q fuel listed a w
 |0,_,_,_,h=>h
 |fuel+1,_,_,_,h=>⟨h.1,fun i hi=>wpOp_mono (fun _ _ h'=>Bn fuel _ _ _ h'.2) (h.2 i hi)⟩
theorem wpAnyL_first {i:Nat} {oi:Oper} {v:Value} (hi:ops[i]? =some oi) (hsel:∀(j:Nat) (o:Oper) cs b,ops[j]? =some o→o.op≠ .select cs b)
  (hQ:∀c a w,Q (.panic c) (a.put oi.dst v) w→Q (.panic c) a w) (hSi:∀L w,S (L.setIfInBounds i true) w↔S L w):
  ∀(fuel:Nat) (listed:Array Bool) (a:Act) (w:World),
   (∀j oj,ops[j]? =some oj→j≠i→listed.getD j true=false→(∀e∈oj.after,Region.binds md e=true→e.on≠i)→oi.apart ops oj=true)→
   i∈Region.ready md ops listed→Closed md ops listed→YieldsIf P ops (fun w=>∃L,Closed md ops L∧L.getD i true=false∧S L w) oi v a→S listed w→
   wpAnyL P md ops Q S fuel (listed.setIfInBounds i true) (a.put oi.dst v) w→wpAnyL P md ops Q S (fuel+1) listed a w:=by
 intro fuel
 induction fuel with
 |zero=>
  intro listed a w _ hr hcl hy hS H
  refine ⟨fun h=>(by rw [h] at hr;cases hr),fun j hj=>?_⟩
  by_cases hji:j=i
  ·exact F5
  have:=ready_mono hj hji
  rw [H.1] at this
  cases this
 |succ fuel ih=>
  intro listed a w hfree hr hcl hy hS H
  refine ⟨fun h=>(by rw [h] at hr;cases hr),fun j hj=>?_⟩
  by_cases hji:j=i
  ·exact F5
  have h1:=H.2 j (ready_mono hj hji)
  obtain ⟨hjun,oj,hoj,hall⟩:=mem_ready.1 hj
  have hnot:∀e∈oj.after,Region.binds md e=true→e.on≠i:=fun e he hb heq=>by
   have h1:=hall e he hb
   have h0:=(mem_ready.1 hr).1
   rw [heq] at h1
   rcases Nat.lt_or_ge i listed.size with h'|h'
   ·simp [h'] at h0 h1;rw [h0] at h1;cases h1
   simp [Array.getElem?_eq_none h'] at h1
  have h2:=wpOp_putIf hoj (hfree j oj hoj hji hjun hnot) (fun cs b=>hsel i oi cs b hi) (fun cs b=>hsel j oj cs b hoj) hQ hy h1
  have hfree':∀k ok,ops[k]? =some ok→k≠i→(listed.setIfInBounds j true).getD k true=false→
    (∀e∈ok.after,Region.binds md e=true→e.on≠i)→oi.apart ops ok=true:=fun k ok hk hki hun hno=>by
   refine hfree k ok hk hki ?_ hno
   by_cases hjk:j=k
   ·subst hjk;exact hjun
   rw [getD_set_ne true hjk] at hun;exact hun
  have hc:(listed.setIfInBounds i true).setIfInBounds j true=(listed.setIfInBounds j true).setIfInBounds i true:=Array.setIfInBounds_comm _ _ (Ne.symm hji)
  rw [hc] at h2
  refine wpOp_mono (fun a' w' h3=>?_) h2
  exact ⟨(hSi _ _).1 h3.2.1,ih (listed.setIfInBounds j true) a' w' hfree' (ready_mono hr (Ne.symm hji)) (hcl.step hj) h3.1 ((hSi _ _).1 h3.2.1) h3.2.2⟩
def ST (T:List Nat) (A:World→Prop) (L:Array Bool) (w:World):Prop:=(T.all fun s=> !L.getD s false)=true→A w
theorem Hl {T:List Nat} {A:World→Prop} {i:Nat} (h:(T.all fun s=>s != i)=true) (L:Array Bool) (w:World):ST T A (L.setIfInBounds i true) w↔ST T A L w:=by
 have e:(T.all fun s=> !(L.setIfInBounds i true).getD s false)=(T.all fun s=> !L.getD s false):=by
  rw [Bool.eq_iff_iff,List.all_eq_true,List.all_eq_true]
  rw [List.all_eq_true] at h
  refine ⟨fun H s hs=>?_,fun H s hs=>?_⟩
  ·have h1:=h s hs
   rw [←getD_set_ne false (i:=i) (j:=s) (by simpa using (fun e=>by simp [e] at h1))]
   exact H s hs
  have h1:=h s hs
  rw [getD_set_ne false (i:=i) (j:=s) (by simpa using (fun e=>by simp [e] at h1))]
  exact H s hs
 unfold ST
 rw [e]
section
variable {T:List Nat} {A:World→Prop} {i:Nat} {oi:Oper} {tl:List Oper} {v:Value} {fuel:Nat} {listed:Array Bool} {a:Act} {w:World}
theorem lS (hi:ops.toList.drop i=oi::tl) (hs:Region.noSelect ops=true) (hf:Region.free md ops listed i=true) (hr:(Region.ready md ops listed).contains i=true)
  (hT:(T.all fun s=>s != i&&xK md ops i ops.size s)=true) (hcl:rQ md ops listed=true)
  (hQ:∀c a w,Q (.panic c) (a.put oi.dst v) w→Q (.panic c) a w) (hw:Region.wanted oi (yielded ops a.tmps)=true) (hy:∀w,A w→(execOp a.eval oi).run P w= .ok (.value v) w) (hS:ST T A listed w)
  (h:wpAnyL P md ops Q (ST T A) fuel (listed.setIfInBounds i true) (a.put oi.dst v) w):wpAnyL P md ops Q (ST T A) (fuel+1) listed a w:=by
 have hT1:(T.all fun s=>s != i)=true:=by
  rw [List.all_eq_true] at hT ⊢
  exact fun s hs=>by have:=hT s hs;simp only [Bool.and_eq_true] at this;exact this.1
 refine wpAnyL_first (kK hi) (Region.noSelect_spec hs) hQ (Hl hT1) fuel listed a w (Region.free_spec (kK hi) hf) (by simpa using hr) (xk hcl) (.inl ⟨hw,fun w' hw'=>hy w' ?_⟩) hS h
 obtain ⟨L,hL,YN,hA⟩:=hw'
 refine hA ?_
 rw [List.all_eq_true] at hT ⊢
 intro s hs
 have h1:=hT s hs
 simp only [Bool.and_eq_true] at h1
 cases e:L.getD s false with
 |false=>rfl
 |true=>
  have h2:=Bl hL _ s h1.2 e
  rcases Nat.lt_or_ge i L.size with h'|h'
  ·simp [h'] at h2 YN;rw [YN] at h2;cases h2
  simp [Array.getElem?_eq_none h'] at h2
theorem iy (hi:ops.toList.drop i=oi::tl) (hs:Region.noSelect ops=true) (hf:Region.free md ops listed i=true) (hr:(Region.ready md ops listed).contains i=true)
  (hT:(T.all fun s=>s != i)=true) (hcl:rQ md ops listed=true)
  (hQ:∀c a w,Q (.panic c) (a.put oi.dst v) w→Q (.panic c) a w) (hw:Region.wanted oi (yielded ops a.tmps)=true) (hy:∀w,(execOp a.eval oi).run P w= .ok (.value v) w) (hS:ST T A listed w)
  (h:wpAnyL P md ops Q (ST T A) fuel (listed.setIfInBounds i true) (a.put oi.dst v) w):wpAnyL P md ops Q (ST T A) (fuel+1) listed a w:=
 wpAnyL_first (kK hi) (Region.noSelect_spec hs) hQ (Hl hT) fuel listed a w (Region.free_spec (kK hi) hf) (by simpa using hr) (xk hcl) (.inl ⟨hw,fun w' _=>hy w'⟩) hS h
def iV (P:Program) (md:Region.Mode) (ops:Array Oper) (Q:Exit→Act→World→Prop) (T:List Nat) (A:World→Prop) (fuel:Nat) (listed:Array Bool) (a:Act) (w:World) (i:Nat):Prop:=
 ∃o tl,ops.toList.drop i=o::tl∧Region.wanted o (yielded ops a.tmps)=true∧∀K':Act→World→Prop,
  Shut (∀a w,((T.all fun s=> !(listed.setIfInBounds i true).getD s false)=true→A w)→(ST T A (listed.setIfInBounds i true) w→wpAnyL P md ops Q (ST T A) fuel (listed.setIfInBounds i true) a w)→K' a w)→Oper.wp P o a w K' Q
theorem iV.mk (ho:ops.toList.drop i=oi::tl) (hw:Region.wanted oi (yielded ops a.tmps)=true)
  (h:∀K':Act→World→Prop,Shut (∀a w,((T.all fun s=> !(listed.setIfInBounds i true).getD s false)=true→A w)→(ST T A (listed.setIfInBounds i true) w→wpAnyL P md ops Q (ST T A) fuel (listed.setIfInBounds i true) a w)→K' a w)→Oper.wp P oi a w K' Q):
  iV P md ops Q T A fuel listed a w i:=⟨oi,tl,ho,hw,h⟩
theorem Bo {rs:List Nat} (hr:Region.ready md ops listed=rs) (hne:rs≠[]) (h:∀i∈rs,iV P md ops Q T A fuel listed a w i):wpAnyL P md ops Q (ST T A) (fuel+1) listed a w:=by
 refine ⟨fun h0=>absurd (hr▸h0) hne,fun i hi=>?_⟩
 obtain ⟨o,tl,ho,hw,hk⟩:=h i (hr▸hi)
 exact wpOp_step (kK ho) (fun K' hK=>by rw [if_pos hw];exact hk K' (fun a w hS hW=>hK a w ⟨hS,hW hS⟩))
theorem Kb {i:Nat} (hr:Region.ready md ops listed=[i]) (h1:iV P md ops Q T A fuel listed a w i):wpAnyL P md ops Q (ST T A) (fuel+1) listed a w:=
 Bo hr (by simp) (fun x hx=>by
  simp only [List.mem_cons,List.not_mem_nil,or_false] at hx
  subst hx;exact h1)
theorem gT {i j:Nat} (hr:Region.ready md ops listed=[i,j]) (h1:iV P md ops Q T A fuel listed a w i) (h2:iV P md ops Q T A fuel listed a w j):wpAnyL P md ops Q (ST T A) (fuel+1) listed a w:=
 Bo hr (by simp) (fun x hx=>by
  simp only [List.mem_cons,List.not_mem_nil,or_false] at hx
  rcases hx with rfl|rfl
  ·exact h1
  exact h2)
theorem LZ (hr:Region.ready md ops listed=[]) (h:Q .normal a w):∀fuel,wpAnyL P md ops Q S fuel listed a w
 |0=>⟨hr,h⟩
 |_+1=>⟨fun _=>h,by rw [hr];simp⟩
theorem aL {id:Nat} (T:List Nat) (A:World→Prop) (hm:P.follows .mixedOrders=true) (hS:A w.drew)
  (h:ST T A (Array.replicate ops.size false) w.drew→wpAnyL P .any ops Q (ST T A) ops.size (Array.replicate ops.size false) a w.drew):(Code.region id ops true).wp P Q a w:=
 wp_region_any hm (Bn _ _ _ _ (h (fun _=>hS)))
end
end
theorem uF {P:Program} {md:Region.Mode} {ops:Array Oper} {Q:Exit→Act→World→Prop} {T:List Nat} {A:World→Prop} {fuel:Nat} {listed:Array Bool} {a:Act} {w:World} {i:Nat} {is:List Nat} {oi:Oper} {tl:List Oper} {v:Value} {q:Prop} (h:Run is q) (hi:ops.toList.drop i=oi::tl:=by rfl)
  (hc:(Region.noSelect ops&&(Region.free md ops listed i&&(Region.ready md ops listed).contains i)&&(T.all fun s=>s != i)&&rQ md ops listed)=true:=by kernel_rfl)
  (hQ:∀c a w,Q (.panic c) (a.put oi.dst v) w→Q (.panic c) a w:=by exact fun _ _ _ h=>h) (hw:Region.wanted oi (yielded ops a.tmps)=true:=by rfl) (hy:∀w,(execOp a.eval oi).run P w= .ok (.value v) w:=by intro w;go_simp;(try with_reducible rfl))
  (hq:q→ST T A (listed.setIfInBounds i true) w→wpAnyL P md ops Q (ST T A) fuel (listed.setIfInBounds i true) (a.put oi.dst v) w:=by intro h;(try simp only [Act.put,zP,zQ,zR]);exact h):Run (i::is) (ST T A listed w→wpAnyL P md ops Q (ST T A) (fuel+1) listed a w):=fun hS=>by
 simp only [Bool.and_eq_true] at hc
 exact iy hi hc.1.1.1 hc.1.1.2.1 hc.1.1.2.2 hc.1.2 hc.2 hQ hw hy hS (hq h ((Hl hc.1.2 _ _).2 hS))
theorem uJ {p:Prop} {T:List Nat} {A:World→Prop} {listed:Array Bool} {w:World} (is:List Nat) (hS:ST T A listed w) (h:Run is (ST T A listed w→p)):p:=h hS
theorem uL {P:Program} {md:Region.Mode} {ops:Array Oper} {Q:Exit→Act→World→Prop} {T:List Nat} {A:World→Prop} {fuel:Nat} {listed:Array Bool} {a:Act} {w:World} {i:Nat} {is:List Nat} {oi:Oper} {tl:List Oper} {v:Value} {q:Prop} (h:Run is q) (hi:ops.toList.drop i=oi::tl:=by rfl)
  (hc:(Region.noSelect ops&&(Region.free md ops listed i&&(Region.ready md ops listed).contains i)&&(T.all fun s=>s != i&&xK md ops i ops.size s)&&rQ md ops listed)=true:=by kernel_rfl)
  (hQ:∀c a w,Q (.panic c) (a.put oi.dst v) w→Q (.panic c) a w:=by exact fun _ _ _ h=>h) (hw:Region.wanted oi (yielded ops a.tmps)=true:=by rfl) (hy:∀w,A w→(execOp a.eval oi).run P w= .ok (.value v) w:=by intro w hSw;(try dsimp only at hSw);go_simp;(try with_reducible rfl))
  (hq:q→ST T A (listed.setIfInBounds i true) w→wpAnyL P md ops Q (ST T A) fuel (listed.setIfInBounds i true) (a.put oi.dst v) w:=by intro h;(try simp only [Act.put,zP,zQ,zR]);exact h):Run (i::is) (ST T A listed w→wpAnyL P md ops Q (ST T A) (fuel+1) listed a w):=fun hS=>by
 simp only [Bool.and_eq_true] at hc
 have hT1:(T.all fun s=>s != i)=true:=by
  have hT:=hc.1.2
  rw [List.all_eq_true] at hT ⊢
  exact fun s hs=>by have:=hT s hs;simp only [Bool.and_eq_true] at this;exact this.1
 exact lS hi hc.1.1.1 hc.1.1.2.1 hc.1.1.2.2 hc.1.2 hc.2 hQ hw hy hS (hq h ((Hl hT1 _ _).2 hS))
theorem uN {P:Program} {md:Region.Mode} {ops:Array Oper} {Q:Exit→Act→World→Prop} {T:List Nat} {A:World→Prop} {fuel:Nat} {listed:Array Bool} {a:Act} {w:World} (i:Nat) {oi:Oper} {tl:List Oper}
  (h:∀K':Act→World→Prop,Shut (∀a w,((T.all fun s=> !(listed.setIfInBounds i true).getD s false)=true→A w)→(ST T A (listed.setIfInBounds i true) w→wpAnyL P md ops Q (ST T A) fuel (listed.setIfInBounds i true) a w)→K' a w)→Oper.wp P oi a w K' Q)
  (ho:ops.toList.drop i=oi::tl:=by rfl) (hr:Region.ready md ops listed=[i]:=by kernel_rfl) (hw:Region.wanted oi (yielded ops a.tmps)=true:=by rfl):wpAnyL P md ops Q (ST T A) (fuel+1) listed a w:=Kb hr (iV.mk ho hw h)
theorem uE {P:Program} {md:Region.Mode} {ops:Array Oper} {Q:Exit→Act→World→Prop} {S:Array Bool→World→Prop} {fuel:Nat} {listed:Array Bool} {a:Act} {w:World} (h:Q .normal a w) (hr:Region.ready md ops listed=[]:=by kernel_rfl):wpAnyL P md ops Q S fuel listed a w:=LZ hr h fuel

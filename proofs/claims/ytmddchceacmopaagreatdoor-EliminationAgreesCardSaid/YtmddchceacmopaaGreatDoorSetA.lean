
import Derived.Test.YtmddchceacmopaaGreatDoorHeap
import Derived.Test.YtmddchceacmopaaGreatDoorProg
import Derived.Deep.QuietTactic
import Derived.BigQuiet
import Derived.WalkSpells
import Derived.Deep.DeepCutAuto
import Derived.Deep.RegionHeld3
import Derived.Deep.Onto
import Derived.StillTailTactics
import Derived.Laws.MakeOwn
set_option linter.unusedVariables false
set_option linter.unusedSimpArgs false
namespace Go.Proofs.YtmddchceacmopaaGreatDoor
open Go Go.RowKit
theorem yS {p:Prop} (h:p:=by
 go_enter Tryz.func107,Tryz.ntmps107
 exact ko):p:=h
theorem Gl {p:Prop} (h:p:=by
 clear hx hn
 go_enter Tryz.func76,Tryz.ntmps76
 go_wp2_with fail
 go_quiet (first|(go_at_call 107;exact WY (hrt▸lU w _))|(go_at_call 108;exact WY (pz w hw _)))
 go_wp2_with fail
 go_quiet ((go_at_call 109;exact qs2 (O5 w hw _)))
 exact nG):p:=h
theorem yT {p:Prop} (h:p:=by
 go_enter Tryz.func144,Tryz.ntmps144
 exact nG):p:=h
theorem Gm {p:Prop} (h:p:=by
 have HO:=aa ho
 clear ho
 go_wp2_with fail
 refine aW rfl ?_
 simp [results,Tryz.results89,go_sem,cC]
 refine ⟨_,_,rfl,HO.fin (W0:=W) (by omega) HM ?_ hw hm2,?_⟩
 ·exact ((Ext.refl (Lo (W.heap.size+3)) _).setCell (p:=⟨W.heap.size+2,0,none⟩) (fun _=>Nat.lt_succ_self _) _).setCell (p:=⟨W.heap.size+2,1,none⟩) (fun _=>Nat.lt_succ_self _) _
 exact gG hm.ext (by omega)):p:=h
theorem Gn {p:Prop} (h:p:=by
 repeat still_step
 try refine wpStill_nil ?_
 obtain ⟨ug,hug⟩:=hcg
 go_wp2_with fail
 go_roundw
 case rel=>exact ⟨j+1,by omega,by go_num,HS.drewN _⟩
 case measure=>simp [intOf];omega):p:=h
def iY (l:List Nat):List Value:=l.map fun (n:Nat)=> .int .u64 (n:Int)
theorem qZ (l:List Nat):(iY l).length=l.length:=by simp [iY]
theorem AQ (l:List Nat) (i:Nat) (h:i < l.length):(iY l)[i]? =some (.int .u64 (l[i]:Int)):=by simp [iY,h]
theorem Aw (l:List Nat):∀u∈iY l,u.oneCell'=true:=by
 intro u hu;obtain ⟨z,_,rfl⟩:=List.mem_map.1 hu;rfl
structure aU (M:Nat→Prop) (W:World) (sl:Value) (l:List Nat):Prop where
 row:Row M W 1 sl l.length (iY l)
 lt:∀n∈l,n < 2 ^ 64
structure aG (M:Nat→Prop) (W:World) (sl:Value) (w m:Nat):Prop where
 words:aU M W sl (aY w m)
 hw:w≤256
 hm:m < 2 ^ w
def oo (M:Nat→Prop) (W:World) (v:Value) (s:bC):Prop:=∃sl,v= .agg #[.int .i64 s.width,sl]∧aU M W sl s.words
section
variable {M M':Nat→Prop} {W W':World} {sl v:Value} {l:List Nat} {w m:Nat} {s:bC}
theorem aU.ext (h:aU M W sl l) (hx:Ext M' W W') (hm:∀i,i < W.heap.size→M' i→M i):aU M W' sl l:=⟨h.row.ext hx hm,h.lt⟩
theorem aU.aj (h:aU M W sl l) (hx:Ext No W W'):aU M W' sl l:=⟨h.row.aj hx,h.lt⟩
theorem aU.mono (h:aU M W sl l) (hm:∀i,i < W.heap.size→M' i→M i):aU M' W sl l:=⟨h.row.mono hm,h.lt⟩
theorem aG.ext (h:aG M W sl w m) (hx:Ext M' W W') (hm:∀i,i < W.heap.size→M' i→M i):aG M W' sl w m:=⟨h.words.ext hx hm,h.hw,h.hm⟩
theorem aG.aj (h:aG M W sl w m) (hx:Ext No W W'):aG M W' sl w m:=⟨h.words.aj hx,h.hw,h.hm⟩
theorem aG.mono (h:aG M W sl w m) (hm:∀i,i < W.heap.size→M' i→M i):aG M' W sl w m:=⟨h.words.mono hm,h.hw,h.hm⟩
theorem aG.no (h:aG M W sl w m):aG No W sl w m:=h.mono (fun _ _ x=>x.elim)
theorem aG.raw (h:aG M W sl w m):oo M W (.agg #[.int .i64 (w:Int),sl]) (bJ w m):=⟨sl,rfl,h.words⟩
theorem oo.aj (h:oo M W v s) (hx:Ext No W W'):oo M W' v s:=by obtain ⟨sl,h1,h2⟩:=h;exact ⟨sl,h1,h2.aj hx⟩
theorem oo.no (h:oo M W v s):oo No W v s:=by obtain ⟨sl,h1,h2⟩:=h;exact ⟨sl,h1,h2.mono (fun _ _ x=>x.elim)⟩
theorem aU.slice (h:aU M W sl l):∃a c,sl= .slice a l.length c:=h.row.slice
theorem aG.slice (h:aG M W sl w m):∃a c,sl= .slice a (nw w) c:=by
 obtain ⟨a,c,h1⟩:=h.words.slice;exact ⟨a,c,by rw [h1,aX]⟩
theorem aU.at (h:aU M W sl l) {i:Nat} (hi:i < l.length):∃b off cap,sl= .slice (some ⟨b,off,none⟩) l.length cap∧b < W.heap.size∧¬M b∧∀j (hj:j < l.length),W.cell? ⟨b,off+j,none⟩=some (.int .u64 (l[j]:Int)):=by
 obtain ⟨b,off,cap,h1,h2,h3,h4⟩:=h.row.shape (by omega)
 exact ⟨b,off,cap,h1,h2,h3,fun j hj=>h4 j _ (AQ l j hj)⟩
theorem aG.at (h:aG M W sl w m) (hw:0 < nw w):∃b off cap,sl= .slice (some ⟨b,off,none⟩) (nw w) cap∧b < W.heap.size∧¬M b∧∀j,j < nw w→W.cell? ⟨b,off+j,none⟩=some (.int .u64 (dD m j:Int)):=by
 obtain ⟨b,off,cap,h1,h2,h3,h4⟩:=h.words.at (i:=0) (by rw [aX];exact hw)
 exact ⟨b,off,cap,by rw [h1,aX],h2,h3,fun j hj=>by rw [h4 j (by rw [aX];exact hj),gL]⟩
end
def kH (z:Int):Bool:=decide (0≤z∧z≤256)
theorem Ip {z:Int} (h:kH z=true):∃w:Nat,z=w∧w≤256:=by
 simp only [kH,decide_eq_true_eq] at h
 exact ⟨z.toNat,by omega,by omega⟩
theorem Ng {k:IntKind} {a b:Int} (h:a=b):Ending.returned (.int k a)= .returned (.int k b):=by rw [h]
theorem kM {a b:Bool} (h:a=b):Ending.returned (.bool a)= .returned (.bool b):=by rw [h]
theorem lU (z:Int) (W:World):Calls Tryz.prog 107 #[.int .i64 z] W fun e w'=>e= .returned (.bool (kH z))∧W=w':=by
 by_cases h0:0≤z
 ·by_cases h1:z≤256
  ·rw [show kH z=true from decide_eq_true ⟨h0,h1⟩]
   exact yS
  rw [show kH z=false from decide_eq_false (fun h=>h1 h.2)]
  exact yS
 rw [show kH z=false from decide_eq_false (fun h=>h0 h.1)]
 exact yS
theorem pz (w:Nat) (hw:w≤256) (W:World):Calls Tryz.prog 108 #[.int .i64 (w:Int)] W fun e w'=>e= .returned (.int .i64 (nw w:Int))∧W=w':=by
 have hw':(w:Int)≤256:=by omega
 go_enter Tryz.func108,Tryz.ntmps108
 go_wp2
 go_ret
 exact ⟨Ng (by unfold nw;omega),rfl⟩
def kE (w:Nat):Nat:=2 ^ 64 - 2 ^ (w % 64)
theorem O6 (w:Nat):kE w < 2 ^ 64:=by unfold kE;have:=Nat.two_pow_pos (w % 64);omega
theorem RS (k:Nat) (h:k < 64):IntKind.u64.wrap (18446744073709551615*2 ^ k)=((2 ^ 64 - 2 ^ k:Nat):Int):=by
 have h1:2 ^ k < 2 ^ 64:=Nat.pow_lt_pow_right (by decide) h
 have h0:=Nat.two_pow_pos k
 have e:(18446744073709551615*2 ^ k:Int)=(((2 ^ 64 - 1)*2 ^ k:Nat):Int):=by simp
 rw [e]
 simp only [IntKind.wrap,IntKind.bits,IntKind.signed]
 simp
 have e2:((18446744073709551615:Int)*2 ^ k)=18446744073709551616*2 ^ k - 2 ^ k:=by
  have:(18446744073709551615:Int)=18446744073709551616 - 1:=rfl
  rw [this,Int.sub_mul,Int.one_mul]
 generalize hp:(2:Nat) ^ k=p at*
 have hq:((2:Int) ^ k)=p:=by rw [←hp];simp
 rw [hq] at e2 ⊢
 omega
theorem O5 (w:Nat) (hw:w≤256) (W:World):Calls Tryz.prog 109 #[.int .i64 (w:Int)] W fun e w'=>e= .returned (.int .u64 (kE w:Int))∧W=w':=by
 have hw':(w:Int)≤256:=by omega
 have hu:IntKind.u64.wrap (w:Int)=w:=qV w (by omega)
 have hs:0≤(w:Int) % 64∧(w:Int) % 64≤64:=by omega
 obtain ⟨hs1,hs2⟩:=hs
 go_enter Tryz.func109,Tryz.ntmps109
 go_wp2
 go_ret
 exact ⟨Ng (RS _ (Nat.mod_lt _ (by decide))),rfl⟩
theorem O7 (w n:Nat) (hn:n < 2 ^ 64):bits .and .u64 (n:Int) (kE w:Int)=((n&&& kE w:Nat):Int):=wN _ _ hn (O6 w)
theorem O8 (w n:Nat) (hn:n < 2 ^ 64):n&&& kE w=0↔n < 2 ^ (w % 64):=by
 have hk:w % 64 < 64:=Nat.mod_lt _ (by decide)
 generalize hkk:w % 64=k at*
 have hb:∀j,(kE w).testBit j=(decide (k≤j)&&decide (j < 64)):=by
  intro j
  unfold kE
  rw [hkk]
  have e:2 ^ 64 - 2 ^ k=2 ^ k*(2 ^ (64 - k) - 1):=by
   rw [Nat.mul_sub,←Nat.pow_add,Nat.mul_one,show k+(64 - k)=64 by omega]
  rw [e,Nat.testBit_two_pow_mul,Nat.testBit_two_pow_sub_one]
  by_cases h1:k≤j
  ·simp only [h1,decide_true,Bool.true_and,ge_iff_le]
   apply decide_eq_decide.2;omega
  simp [h1]
 constructor
 ·intro h
  refine Nat.lt_pow_two_of_testBit _ (fun j hj=>?_)
  by_cases hj2:j < 64
  ·have:=congrArg (fun x=>x.testBit j) h
   simp only [Nat.testBit_and,hb,Nat.zero_testBit] at this
   simpa [hj,hj2] using this
  exact Nat.testBit_lt_two_pow (Nat.lt_of_lt_of_le hn (Nat.pow_le_pow_right (by decide) (by omega)))
 intro h
 refine Nat.eq_of_testBit_eq (fun j=>?_)
 rw [Nat.testBit_and,hb,Nat.zero_testBit]
 by_cases hj:k≤j
 ·rw [Nat.testBit_lt_two_pow (Nat.lt_of_lt_of_le h (Nat.pow_le_pow_right (by decide) hj))];rfl
 simp [hj]
theorem JB (l:List Nat) (h:∀n∈l,n < 2 ^ 64) (hl:l≠[]) (k:Nat) (hk:k≤64):lX l < 2 ^ (64*(l.length - 1)+k)↔l[l.length - 1]'(by have:=List.length_pos_iff.2 hl;omega) < 2 ^ k:=by
 induction l with
 |nil=>exact absurd rfl hl
 |cons a l ih=>
  cases l with
  |nil=>simp [lX]
  |cons b l=>
   have ih:=ih (fun n hn=>h n (List.mem_cons_of_mem _ hn)) (by simp)
   have ha:=h a (List.mem_cons_self ..)
   rw [lX]
   simp only [List.length_cons,Nat.add_sub_cancel] at ih ⊢
   have e:(a::b::l)[l.length+1]=(b::l)[l.length]:=rfl
   rw [e,←ih]
   have e2:2 ^ (64*(l.length+1)+k)=2 ^ 64*2 ^ (64*l.length+k):=by rw [←Nat.pow_add];congr 1;omega
   rw [e2]
   generalize 2 ^ (64*l.length+k)=p
   generalize lX (b::l)=q
   constructor
   ·intro h1
    rcases Nat.lt_or_ge q p with h2|h2
    ·exact h2
    have:=Nat.mul_le_mul_left (2 ^ 64) h2
    omega
   intro h1
   have:=Nat.mul_le_mul_left (2 ^ 64) (Nat.succ_le_of_lt h1)
   rw [Nat.mul_succ] at this
   omega
theorem Kh {w:Nat} {l:List Nat} (h:∀n∈l,n < 2 ^ 64) (hl:l.length=nw w) (hz:w % 64=0):mE w l=true:=by
 unfold mE
 apply decide_eq_true
 by_cases h0:l=[]
 ·subst h0;simp only [lX];exact Nat.two_pow_pos w
 have hp:=List.length_pos_iff.2 h0
 have h1:=(JB l h h0 64 (Nat.le_refl _)).2 (h _ (List.getElem_mem _))
 have:64*(l.length - 1)+64=w:=by unfold nw at hl;omega
 rw [this] at h1;exact h1
theorem Ki {w:Nat} {l:List Nat} (h:∀n∈l,n < 2 ^ 64) (hl:l.length=nw w) (hz:w % 64≠0) (hk:l.length - 1 < l.length):mE w l=decide (l[l.length - 1]&&& kE w=0):=by
 unfold mE
 apply decide_eq_decide.2
 have h0:l≠[]:=List.length_pos_iff.1 (by omega)
 rw [O8 w _ (h _ (List.getElem_mem _)),←JB l h h0 (w % 64) (by omega)]
 have:64*(l.length - 1)+w % 64=w:=by unfold nw at hl;omega
 rw [this]
end Go.Proofs.YtmddchceacmopaaGreatDoor
namespace Go.Proofs.YtmddchceacmopaaGreatDoor
open Go Go.RowKit
theorem JC {w:Nat} {l:List Nat} (hw:w≤256):fH ⟨w,l⟩=(decide (l.length=nw w)&&mE w l):=by
 unfold fH
 simp only [Int.toNat_natCast]
 congr 1
 apply decide_eq_decide.2
 constructor
 ·exact fun h=>h.2.2
 exact fun h=>⟨by omega,by omega,h⟩
theorem WY {P:Program} {f:FuncId} {args:Array Value} {w:World} {n:Nat} {v:Value} (h:Calls P f args (w.drewN n) fun e w'=>e= .returned v∧w.drewN n=w'):Calls P f args (w.drewN n) fun e w'=>e= .returned v∧∃m,w'=w.drewN m:=
 h.mono fun _ _ ⟨he,hm⟩=>⟨he,n,hm.symm⟩
theorem qs2 {P:Program} {f:FuncId} {args:Array Value} {w:World} {a n:Nat} {v:Value} (h:Calls P f args (w.drewN (a+n)) fun e w'=>e= .returned v∧w.drewN (a+n)=w'):Calls P f args (w.drewN (a+n)) fun e w'=>e= .returned v∧∃m,w'=w.drewN (a+m):=
 h.mono fun _ _ ⟨he,hm⟩=>⟨he,n,hm.symm⟩
def bZ (b:Bool) (W:World) (e:Ending) (w':World):Prop:=e= .returned (.bool b)∧Ext No W w'
set_option maxRecDepth 100000 in
set_option maxHeartbeats 1000000 in
theorem eH (v:Value) (s:bC) (W:World) (h:oo No W v s):Calls Tryz.prog 76 #[v] W (bZ (fH s) W):=by
 obtain ⟨sl,rfl,hs⟩:=h
 obtain ⟨a,c,rfl⟩:=hs.slice
 have HS:=aa hs
 clear hs
 obtain ⟨width,l⟩:=s
 simp only at HS ⊢
 have hlen:=HS.row.2.1
 cases hr:kH width with
 |false=>
  have hv:fH ⟨width,l⟩=false:=by
   unfold fH
   rw [show decide (0≤width∧width≤256∧l.length=nw width.toNat)=false from decide_eq_false (fun h=>by simp only [kH,decide_eq_false_iff_not] at hr;exact hr ⟨h.1,h.2.1⟩)];rfl
  rw [hv]
  clear hv
  go_enter Tryz.func76,Tryz.ntmps76
  go_wp2_with fail
  go_quiet ((go_at_call 107;exact WY (hr▸lU width _)))
  exact nG
 |true=>
  have hrt:kH width=true:=hr
  obtain ⟨w,rfl,hw⟩:=Ip hrt
  clear hr
  rw [JC hw]
  have hw':(w:Int)≤256:=by omega
  by_cases hl:l.length=nw w
  ·have HL:=aa hl
   rw [show decide (l.length=nw w)=true from decide_eq_true hl,Bool.true_and]
   have hne:((l.length:Int) != (nw w:Int))=false:=by simp [hl]
   clear hl
   by_cases hz:w % 64=0
   ·rw [Kh HS.lt HL hz]
    have hz1:((w:Int) % 64==0)=true:=by simp;omega
    have hz2:((w:Int).tmod 64==0)=true:=by rw [Int.tmod_eq_emod_of_nonneg (by omega)];exact hz1
    clear hz
    go_enter Tryz.func76,Tryz.ntmps76
    go_wp2_with fail
    go_quiet (first|(go_at_call 107;exact WY (hrt▸lU w _))|(go_at_call 108;exact WY (pz w hw _)))
    go_wp2_with fail
    go_quiet (fail)
    exact nG
   have hpos:l.length - 1 < l.length:=by have:=HL.out;unfold nw at this;omega
   rw [Ki HS.lt HL.out hz hpos]
   have hz1:((w:Int) % 64==0)=false:=by simp;omega
   have hz2:((w:Int).tmod 64==0)=false:=by rw [Int.tmod_eq_emod_of_nonneg (by omega)];exact hz1
   clear hz
   obtain ⟨b,off,cap,hsl,hb1,_,hc⟩:=HS.at (i:=0) (by omega)
   simp only [Value.slice.injEq] at hsl
   obtain ⟨rfl,_,rfl⟩:=hsl
   have hc1:=hc (l.length - 1) hpos
   have hlt1:=HS.lt _ (List.getElem_mem hpos)
   have hand:=O7 w _ hlt1
   have hn:((l[l.length - 1]&&& kE w:Nat):Int)=0↔l[l.length - 1]&&& kE w=0:=by omega
   clear hc
   have hw1:IntKind.i64.wrap ((l.length:Int) - 1)=((l.length - 1:Nat):Int):=by rw [IntWalk.i64_in _ (by omega)];omega
   have hp1:0≤((l.length - 1:Nat):Int):=by omega
   have hp2:((l.length - 1:Nat):Int) < (l.length:Int):=by omega
   generalize l[l.length - 1]=x at*
   generalize l.length - 1=k at*
   cases hx:decide (x&&& kE w=0) with
   |true=>
    have hx1:(((x&&& kE w:Nat):Int)==0)=true:=by simpa using hx
    exact Gl
   |false=>
    have hx1:(((x&&& kE w:Nat):Int)==0)=false:=by simpa using hx
    exact Gl
  rw [show decide (l.length=nw w)=false from decide_eq_false hl]
  have hne:((l.length:Int) != (nw w:Int))=true:=by simp;omega
  go_enter Tryz.func76,Tryz.ntmps76
  go_wp2_with fail
  go_quiet (first|(go_at_call 107;exact WY (hrt▸lU w _))|(go_at_call 108;exact WY (pz w hw _)))
  exact nG
end Go.Proofs.YtmddchceacmopaaGreatDoor
namespace Go.Proofs.YtmddchceacmopaaGreatDoor
open Go Go.RowKit
def mh (z:Int) (b:Int):Bool:=decide (0≤b∧b < z)
def gz (w m:Nat) (b:Int):Bool:=mh w b&&m.testBit b.toNat
theorem jF {z b:Int} (h:mh z b=true):∃k:Nat,b=k∧(k:Int) < z:=by
 simp only [mh,decide_eq_true_eq] at h
 exact ⟨b.toNat,by omega,by omega⟩
theorem vE (v:Value) (s:bC) (b:Int) (W:World) (h:oo No W v s):Calls Tryz.prog 144 #[v,.int .i64 b] W (bZ (mh s.width b) W):=by
 obtain ⟨sl,rfl,hs⟩:=h
 obtain ⟨a,c,rfl⟩:=hs.slice
 clear hs
 by_cases h0:0≤b
 ·by_cases h1:b < s.width
  ·rw [show mh s.width b=true from decide_eq_true ⟨h0,h1⟩]
   exact yT
  rw [show mh s.width b=false from decide_eq_false (fun h=>h1 h.2)]
  exact yT
 rw [show mh s.width b=false from decide_eq_false (fun h=>h0 h.1)]
 exact yT
theorem xm (m b:Nat):(dD m (b / 64)).testBit (b % 64)=m.testBit b:=by
 rw [gW,Nat.div_add_mod]
 have:b % 64 < 64:=Nat.mod_lt _ (by decide)
 simp [this]
set_option maxRecDepth 100000 in
set_option maxHeartbeats 1000000 in
theorem Ia (w m:Nat) (sl:Value) (b:Int) (W:World) (h:aG No W sl w m):Calls Tryz.prog 126 #[.agg #[.int .i64 (w:Int),sl],.int .i64 b] W (bZ (gz w m b) W):=by
 have H:=aa h
 obtain ⟨a,c,rfl⟩:=h.slice
 have hv:=dI h.hw h.hm
 have hw:=h.hw
 clear h
 unfold gz
 cases hb:mh w b with
 |false=>
  go_enter Tryz.func126,Tryz.ntmps126
  go_wp2_with fail
  refine (eH _ (bJ w m) _ (H.raw.aj ((Ext.refl _ _).alloc _))).mono ?_
  rintro e1 w1 ⟨rfl,hx1⟩
  rw [hv]
  have hB:=hx1.blk (ah (w:=W) rfl) (fun x=>x.elim)
  have cB:=cellOf hB
  have hxa:Ext No W w1:=((Ext.refl _ _).alloc _).af hx1
  go_wp2_with fail
  refine (vE _ (bJ w m) b _ (H.raw.aj hxa)).mono ?_
  rintro e2 w2 ⟨rfl,hx2⟩
  rw [show mh (bJ w m).width b=false from hb]
  go_wp2_with fail
  go_ret
  exact ⟨rfl,hxa.af hx2⟩
 |true=>
  obtain ⟨k,rfl,hk⟩:=jF hb
  have WM:k < w:=by omega
  have hn:k / 64 < nw w:=by unfold nw;omega
  obtain ⟨b0,off,cap,hsl,hb1,_,hc⟩:=H.at (by omega)
  simp only [Value.slice.injEq] at hsl
  obtain ⟨rfl,_,rfl⟩:=hsl
  have hc1:=hc (k / 64) hn
  have ht:=AX _ (k % 64) (gN m (k / 64))
  rw [xm] at ht
  have hk0:(0:Int)≤(k:Int):=by omega
  have hk2:(k:Int)≤256:=by omega
  have hu:IntKind.u64.wrap (k:Int)=k:=qV k (by omega)
  clear hc
  simp only [Bool.true_and,Int.toNat_natCast]
  go_enter Tryz.func126,Tryz.ntmps126
  go_wp2_with fail
  refine (eH _ (bJ w m) _ (H.raw.aj ((Ext.refl _ _).alloc _))).mono ?_
  rintro e1 w1 ⟨rfl,hx1⟩
  rw [hv]
  have hB:=hx1.blk (ah (w:=W) rfl) (fun x=>x.elim)
  have cB:=cellOf hB
  have hxa:Ext No W w1:=((Ext.refl _ _).alloc _).af hx1
  go_wp2_with fail
  refine (vE _ (bJ w m) k _ (H.raw.aj hxa)).mono ?_
  rintro e2 w2 ⟨rfl,hx2⟩
  rw [show mh (bJ w m).width k=true from hb]
  have hxb:=hxa.af hx2
  have hB2:=hx2.blk hB (fun x=>x.elim)
  clear cB
  have cB:=cellOf hB2
  have hc2:=hxb.keep hc1
  go_wp2_with fail
  all_goals
   go_ret
   exact ⟨rfl,hxb⟩
end Go.Proofs.YtmddchceacmopaaGreatDoor
namespace Go.Proofs.YtmddchceacmopaaGreatDoor
open Go Go.RowKit
theorem aW {P:Program} {fn:Func} {R:Ending→World→Prop} {a:Act} {w:World}
  (hd:a.defers=[]) (h:∃v,(results fn a.tmps).run P w= .ok v w∧R (.returned v) w):bodyPost P fn R .ret a w:=by
 obtain ⟨v,hr,hR⟩:=h;exact ⟨hd,v,hr,hR⟩
theorem info_parts {P:Program} {e:TypeId} {z:Value} {s b:Nat} (h:(P.info? e).map (fun i=>(i.zero,i.size,i.bytes))=some (some z,s,b)):∃i,P.info? e=some i∧i.zero=some z∧i.size=s∧i.bytes=b:=by
 cases hi:P.info? e with
 |none=>rw [hi] at h;simp at h
 |some i=>rw [hi] at h;simp at h;exact ⟨i,rfl,h.1,h.2.1,h.2.2⟩
theorem We:(Tryz.prog.info? 108).map (fun i=>(i.zero,i.size,i.bytes))=some (some (.int .u64 0),1,8):=by kernel_rfl
structure gY (W:World) (base:Nat) (v:Value) (l:List Nat):Prop where
 own:W.ownsRow base 108 1 v l.length (iY l)
 lt:∀n∈l,n < 2 ^ 64
def U4 (l:List Nat) (W:World) (e:Ending) (w':World):Prop:=∃v,e= .returned v∧gY w' W.heap.size v l∧Ext No W w'
set_option maxHeartbeats 400000 in
theorem Gp (sl:Value) (l:List Nat) (W:World) (h:aU No W sl l) (hn:l.length≤1048576):
  Calls Tryz.prog 94 #[sl] W (U4 l W):=by
 obtain ⟨i0,hi,hz0,hz1,hz2⟩:=info_parts We
 have H:=aa h
 obtain ⟨a,cap,rfl⟩:=h.slice
 clear h
 have ke:=fun (w:World) (a:Option Addr) (n c:Nat)=>Lib.run_eql_slice_nil (P:= Tryz.prog) w 42 108 a n c 0 0 Tryz.underlying42
 cases a with
 |none=>
  have h0:l.length=0:=by
   rcases H.row.2.2 with ⟨a,c,h1,_,h2|⟨b,off,h2,_⟩⟩
   ·exact h2
   simp only [Value.slice.injEq] at h1;rw [h2] at h1;exact absurd h1.1 (by simp)
  have HL:=aa (List.eq_nil_of_length_eq_zero h0)
  clear h0
  go_enter Tryz.func94,Tryz.ntmps94
  go_wp2
  go_ret
  exact ⟨_,rfl,by rw [HL];exact ⟨World.ownsRow_nil _ _ _ _,by simp⟩,Ext.refl _ _⟩
 |some ad=>
  go_enter Tryz.func94,Tryz.ntmps94
  go_wp2_with (at_builtin;refine bE _ rfl (.tmp 5) (.tmp 6) 42 rfl W.heap.size 108 i0 _ 1 8 Tryz.underlying42 hi hz0 hz1 hz2 rfl (by omega) _ 0 [] rfl (World.ownsRow_made W #[] 0 (Nat.le_refl _) (Nat.zero_le _) rfl) No (some ad) l.length cap (iY l) rfl (Row.aj H.out.row ((Ext.refl _ _).alloc _)) (Aw l) (by omega) (by omega) (by simp) ?_;intro v1 w1 hown hg hat)
  go_ret
  simp only [Nat.zero_add,List.nil_append] at hown
  exact ⟨_,rfl,⟨hown,H.lt⟩,((Ext.refl _ _).alloc _).grown hg (fun k hk hlt=>by cases hk;exact absurd hlt (Nat.lt_irrefl _))⟩
theorem gY.shape {W:World} {base:Nat} {v:Value} {l:List Nat} (h:gY W base v l) (hn:l.length≠0):∃g cap,v= .slice (some ⟨g,0,none⟩) l.length cap∧base≤g∧g < W.heap.size:=by
 obtain ⟨h1,h2⟩:=h.own
 rcases h2 with ⟨_,h3⟩|⟨g,cap,cur,rfl,hb,hg,_⟩
 ·omega
 exact ⟨g,cap,rfl,hb,lt_of_block hg⟩
theorem gY.slice {W:World} {base:Nat} {v:Value} {l:List Nat} (h:gY W base v l):∃a cap,v= .slice a l.length cap:=(Row.bG (M:=No) h.own (fun _ _ x=>x)).slice
theorem gY.at {W:World} {base g cap:Nat} {l:List Nat} (h:gY W base (.slice (some ⟨g,0,none⟩) l.length cap) l) {i:Nat} (hi:i < l.length):W.cell? ⟨g,i,none⟩=some (.int .u64 (l[i]:Int)):=by
 rw [World.ownsRow.cellAt h.own i (by omega),AQ l i hi]
theorem gY.free {W:World} {base g cap:Nat} {l:List Nat} (h:gY W base (.slice (some ⟨g,0,none⟩) l.length cap) l) (i:Nat):W.frozen? ⟨g,i,none⟩=false:=World.ownsRow.frozenAt h.own i
theorem JD (l:List Nat) (i n:Nat):iY (l.set i n)=(iY l).set i (.int .u64 (n:Int)):=by simp [iY,List.map_set]
theorem gY.set {W:World} {base g cap:Nat} {l:List Nat} (h:gY W base (.slice (some ⟨g,0,none⟩) l.length cap) l) (i n:Nat) (hn:n < 2 ^ 64):gY (W.setCell ⟨g,i,none⟩ (.int .u64 (n:Int))) base (.slice (some ⟨g,0,none⟩) l.length cap) (l.set i n):=
 ⟨by rw [List.length_set,JD];exact (World.ownsRow.stored (w:=W) h.own i (.int .u64 (n:Int))).1,fun k hk=>by
  rcases List.mem_or_eq_of_mem_set hk with h1|rfl
  ·exact h.lt k h1
  exact hn⟩
theorem gY.ext {M:Nat→Prop} {W W':World} {base:Nat} {v:Value} {l:List Nat} (h:gY W base v l) (hx:Ext M W W') (hM:∀i,base≤i→¬M i):gY W' base v l:=by
 refine ⟨?_,h.lt⟩
 obtain ⟨h1,h2⟩:=h.own
 exact yH
theorem gY.fin {M:Nat→Prop} {W0 W W':World} {base w m:Nat} {v:Value} (h:gY W base v (aY w m)) (hb:W0.heap.size≤base) (hM:∀b,M b→b < W0.heap.size) (hx:Ext (Lo base) W W') (hw:w≤256) (hm:m < 2 ^ w):aG M W' v w m:=
 ⟨⟨Row.fin h.own hb hM hx,h.lt⟩,hw,hm⟩
theorem zz (w:Nat):aY w 0=List.replicate (nw w) 0:=by
 refine List.ext_getElem (by simp [aX]) (fun i h1 h2=>?_)
 rw [gL,Bh,List.getElem_replicate]
theorem zB (w m b:Nat) (hb:b < w):(aY w m).set (b / 64) (dD m (b / 64)|||2 ^ (b % 64))=aY w (m|||2 ^ b):=by
 refine List.ext_getElem (by simp [aX]) (fun i h1 h2=>?_)
 rw [List.getElem_set,gL,gL,JA,Bi]
 by_cases h:b / 64=i
 ·rw [if_pos h,if_pos h.symm,h]
 rw [if_neg h,if_neg (Ne.symm h),Nat.or_zero]
theorem BV (w m b:Nat) (hb:b < w):(aY w m).set (b / 64) (dz (dD m (b / 64)) (2 ^ (b % 64)))=aY w (dz m (2 ^ b)):=by
 refine List.ext_getElem (by simp [aX]) (fun i h1 h2=>?_)
 rw [List.getElem_set,gL,gL,Bg,Bi]
 by_cases h:b / 64=i
 ·rw [if_pos h,if_pos h.symm,h]
 rw [if_neg h,if_neg (Ne.symm h)]
 unfold dz;simp
def p2 (k:Nat):Nat:=2 ^ k
theorem QA {k:Nat} (h:k < 64):p2 k < 2 ^ 64:=Nat.pow_lt_pow_right (by decide) h
theorem Lg {k:Nat} (h:k < 64):IntKind.u64.wrap (2 ^ k)=(p2 k:Int):=by
 have:=UX k h
 rw [Int.one_mul] at this
 exact this
def U6 (base:Nat) (v:Value) (w m b:Nat) (g:Nat) (W:World) (e:Ending) (w':World):Prop:=e= .returned (.tuple #[])∧gY w' base v (aY w (m|||2 ^ b))∧Ext (At g) W w'∧W.heap.size≤w'.heap.size
set_option maxHeartbeats 400000 in
theorem Nh (base g cap w m b:Nat) (hb:b < w) (hw:w≤256) (W:World) (h:gY W base (.slice (some ⟨g,0,none⟩) (nw w) cap) (aY w m)) (hg:g < W.heap.size) (hbg:base≤g):
  Calls Tryz.prog 146 #[.agg #[.int .i64 (w:Int),.slice (some ⟨g,0,none⟩) (nw w) cap],.int .i64 (b:Int)] W (U6 base (.slice (some ⟨g,0,none⟩) (nw w) cap) w m b g W):=by
 have hn:b / 64 < nw w:=by unfold nw;omega
 have hl:=aX w m
 rw [←hl] at h
 have hc:=h.at (i:=b / 64) (by rw [hl];exact hn)
 have hf:=h.free (b / 64)
 rw [gL] at hc
 have HS:=aa (h.set (b / 64) (dD m (b / 64)|||p2 (b % 64)) (Nat.or_lt_two_pow (gN _ _) (QA (Nat.mod_lt _ (by decide)))))
 rw [hl,show dD m (b / 64)|||p2 (b % 64)=dD m (b / 64)|||2 ^ (b % 64) from rfl,zB w m b hb] at HS
 clear h hl
 have hk0:(0:Int)≤(b:Int):=by omega
 have hk2:(b:Int)≤256:=by omega
 have hu:IntKind.u64.wrap (b:Int)=b:=qV b (by omega)
 have h64:b % 64 < 64:=Nat.mod_lt _ (by decide)
 have hor:=H7 (dD m (b / 64)) (p2 (b % 64)) (gN _ _) (QA h64)
 have hsh:=Lg h64
 go_enter Tryz.func146,Tryz.ntmps146
 go_wp2_with fail
 go_end0
 exact ⟨rfl,gY.ext HS ((Ext.refl No _).alloc _) (fun _ _ x=>x),((Ext.refl (At g) _).setCell (p:=⟨g,_,none⟩) (fun _=>rfl) _).alloc _,by simp [World.setCell]⟩
def Xx (M:Nat→Prop) (b:Nat):Nat→Prop:=fun k=>M k∨k=b∨k=b+1
theorem U7 {M:Nat→Prop} {W:World} {o o':Obj} (hM:∀b,M b→b < W.heap.size):∀b,Xx M W.heap.size b→b < ((W.alloc o).alloc o').heap.size:=fun b h=>by
 have e:((W.alloc o).alloc o').heap.size=W.heap.size+2:=by simp
 rcases h with h|rfl|rfl
 ·have:=hM b h;omega
 ·omega
 omega
def Two (b:Nat):Nat→Prop:=fun k=>k=b∨k=b+1
theorem RU {W w1:World} {u0 u1:Value} (_:Ext No W w1):Ext (Two W.heap.size) w1 ((w1.setCell ⟨W.heap.size+1,0,none⟩ u0).setCell ⟨W.heap.size+1,1,none⟩ u1):=
 ((Ext.refl (Two W.heap.size) _).setCell (p:=⟨W.heap.size+1,0,none⟩) (fun _=> .inr rfl) _).setCell (p:=⟨W.heap.size+1,1,none⟩) (fun _=> .inr rfl) _
theorem jV {W w1:World} {u0 u1:Value} (_:Ext No W w1) (C:Nat):Ext (At C) w1 ((w1.setCell ⟨C,0,none⟩ u0).setCell ⟨C,1,none⟩ u1):=
 ((Ext.refl (At C) _).setCell (p:=⟨C,0,none⟩) (fun _=>rfl) _).setCell (p:=⟨C,1,none⟩) (fun _=>rfl) _
theorem aG.RV {M:Nat→Prop} {W w':World} {b w m:Nat} {sl:Value} (h:aG (Xx M b) W sl w m) (hx:Ext (Two b) W w'):aG M w' sl w m:=
 (h.ext hx (fun i _ e=> .inr e)).mono (fun i _ e=> .inl e)
theorem RX {w:World} {o:Obj} {g:Nat} (h:(w.alloc o).drew.heap.size≤g):w.heap.size < g:=by
 have e:(w.alloc o).drew.heap.size=w.heap.size+1:=by simp
 omega
theorem ax {k:Nat}:¬No k:=fun x=>x
theorem aO {w:World} {a:Addr} {v:Value} {o:Obj} (h:w.cell? a=some v):(w.alloc o).cell? a=some v:=((Ext.refl No w).alloc o).keep h
theorem keepD {w:World} {a:Addr} {v:Value} (h:w.cell? a=some v):w.drew.cell? a=some v:=h
theorem kX {w:World} {a b:Addr} {v u:Value} (hne:a.block≠b.block) (h:w.cell? a=some v):(w.setCell b u).cell? a=some v:=((Ext.refl (At b.block) w).setCell (fun _=>rfl) u).oK h hne
theorem gZ {w:World} {a:Addr} {v u0 u1:Value} {D:Nat} (h:w.cell? a=some v) (hne:a.block≠D):((w.setCell ⟨D,0,none⟩ u0).setCell ⟨D,1,none⟩ u1).cell? a=some v:=kX hne (kX hne h)
theorem gG {M:Nat→Prop} {a w:World} {u0 u1:Value} {D:Nat} (h:Ext M a w) (hD:a.heap.size≤D):Ext M a ((w.setCell ⟨D,0,none⟩ u0).setCell ⟨D,1,none⟩ u1):=(h.own hD _).own hD _
theorem bf {w w':World} {a:Addr} {v:Value} (hx:Ext No w w') (h:w.cell? a=some v):w'.cell? a=some v:=hx.keep h
theorem gY.XY {W:World} {base w m:Nat} {v:Value} (h:gY W base v (aY w m)) (hn:0 < w):∃g cap,v= .slice (some ⟨g,0,none⟩) (nw w) cap∧base≤g∧g < W.heap.size:=by
 obtain ⟨g,cap,h1,h2,h3⟩:=h.shape (by rw [aX];unfold nw;omega)
 exact ⟨g,cap,by rw [h1,aX],h2,h3⟩
def Ak (W:World) (w m:Nat) (s8:Value) (wx:World):Prop:=
 ∃D g cap,s8= .pointer (some ⟨D,0,none⟩)∧wx.heap[D]? =some (.cells #[.int .i64 (w:Int),.slice (some ⟨g,0,none⟩) (nw w) cap] 44 (0,0))∧gY wx (W.heap.size+2) (.slice (some ⟨g,0,none⟩) (nw w) cap) (aY w m)∧Ext No W wx∧W.heap.size+1 < D∧D≠g∧
  wx.heap[W.heap.size+1]? =some (.cells #[.int .i64 0,.slice none 0 0] 44 (0,0))
def iq (M:Nat→Prop) (w m:Nat) (W:World) (e:Ending) (w':World):Prop:=
 ∃a c,e= .returned (.tuple #[.agg #[.int .i64 (w:Int),.slice a (nw w) c],.int .i64 0])∧Hid (aG M w' (.slice a (nw w) c) w m)∧Ext No W w'
def jA (M:Nat→Prop) (w m:Nat) (W:World) (e:Ending) (w':World):Prop:=
 ∃a c,e= .returned (.agg #[.int .i64 (w:Int),.slice a (nw w) c])∧Hid (aG M w' (.slice a (nw w) c) w m)∧Ext No W w'
theorem Ak.late {W w3:World} {w m base g cap:Nat} (hx:Ext No W w3) (ho:gY w3 base (.slice (some ⟨g,0,none⟩) (nw w) cap) (aY w m)) (hb:W.heap.size+2≤base) (hC:w3.heap[W.heap.size+1]? =some (.cells #[.int .i64 0,.slice none 0 0] 44 (0,0))) (hg:g < w3.heap.size):
  Ak W w m (.pointer (some ⟨w3.heap.size,0,none⟩)) (w3.alloc (.cells #[.int .i64 (w:Int),.slice (some ⟨g,0,none⟩) (nw w) cap] 44)):=by
 have hc:=lt_of_block hC
 refine ⟨_,g,cap,rfl,ah rfl,?_,hx.alloc _,hc,by omega,ay hC⟩
 have h2:=ho.ext (M:=No) ((Ext.refl _ _).alloc (.cells #[.int .i64 (w:Int),.slice (some ⟨g,0,none⟩) (nw w) cap] 44)) (fun _ _ x=>x)
 exact ⟨World.ownsRow.mono h2.own hb,h2.lt⟩
theorem Ak.early {W w2 w3:World} {w m base g cap:Nat} (hx:Ext No W w3) (ho:gY w3 base (.slice (some ⟨g,0,none⟩) (nw w) cap) (aY w m)) (hD:W.heap.size+1 < w2.heap.size) (hC:w3.heap[W.heap.size+1]? =some (.cells #[.int .i64 0,.slice none 0 0] 44 (0,0))) (hz:w3.heap[w2.heap.size]? =some (.cells #[.int .i64 0,.slice none 0 0] 44 (0,0))) (hg:w2.heap.size < g):
  Ak W w m (.pointer (some ⟨w2.heap.size,0,none⟩)) ((w3.setCell ⟨w2.heap.size,0,none⟩ (.int .i64 (w:Int))).setCell ⟨w2.heap.size,1,none⟩ (.slice (some ⟨g,0,none⟩) (nw w) cap)):=by
 have e1:=az (j:=1) (u:= .slice (some ⟨g,0,none⟩) (nw w) cap) (az (j:=0) (u:= .int .i64 (w:Int)) hz)
 have hx2:Ext (At w2.heap.size) w3 ((w3.setCell ⟨w2.heap.size,0,none⟩ (.int .i64 (w:Int))).setCell ⟨w2.heap.size,1,none⟩ (.slice (some ⟨g,0,none⟩) (nw w) cap)):=((Ext.refl (At w2.heap.size) _).setCell (p:=⟨w2.heap.size,0,none⟩) (fun _=>rfl) _).setCell (p:=⟨w2.heap.size,1,none⟩) (fun _=>rfl) _
 refine ⟨_,g,cap,rfl,e1.trans rfl,?_,(hx.own (by simp only;omega) _).own (by simp only;omega) _,hD,by omega,hx2.blk hC (by unfold At;omega)⟩
 have hbase:base≤g:=(World.ownsRow.lt ho.own g rfl).1
 have h2:gY w3 g (.slice (some ⟨g,0,none⟩) (nw w) cap) (aY w m):=by
  refine ⟨?_,ho.lt⟩
  obtain ⟨h1,h2⟩:=ho.own
  refine ⟨h1,?_⟩
  rcases h2 with ⟨h2,_⟩|⟨g',cap',cur,hv,hb,hg',hr⟩
  ·simp at h2
  simp only [Value.slice.injEq,Option.some.injEq,Addr.mk.injEq] at hv
  obtain ⟨⟨rfl,_⟩,_,rfl⟩:=hv
  exact .inr ⟨g,cap,cur,by rw [aX],Nat.le_refl _,hg',hr⟩
 have h3:=h2.ext hx2 (fun i hi=>by unfold At;omega)
 exact ⟨World.ownsRow.mono h3.own (by omega),h3.lt⟩
section
variable {W:World} {base g cap w m:Nat}
theorem gY.at' (h:gY W base (.slice (some ⟨g,0,none⟩) (nw w) cap) (aY w m)) {i:Nat} (hi:i < nw w):W.cell? ⟨g,i,none⟩=some (.int .u64 (dD m i:Int)):=by
 have hl:=aX w m
 rw [←hl] at h
 rw [h.at (i:=i) (by rw [hl];exact hi),gL]
theorem gY.free' (h:gY W base (.slice (some ⟨g,0,none⟩) (nw w) cap) (aY w m)) (i:Nat):W.frozen? ⟨g,i,none⟩=false:=by
 rw [←aX w m] at h
 exact h.free i
theorem gY.set' (h:gY W base (.slice (some ⟨g,0,none⟩) (nw w) cap) (aY w m)) (i n:Nat) (hn:n < 2 ^ 64):gY (W.setCell ⟨g,i,none⟩ (.int .u64 (n:Int))) base (.slice (some ⟨g,0,none⟩) (nw w) cap) ((aY w m).set i n):=by
 rw [←aX w m] at h ⊢
 exact h.set i n hn
theorem gY.low (h:gY W base (.slice (some ⟨g,0,none⟩) (nw w) cap) (aY w m)):base≤g:=(World.ownsRow.lt h.own g rfl).1
theorem gY.lt' (h:gY W base (.slice (some ⟨g,0,none⟩) (nw w) cap) (aY w m)):g < W.heap.size:=(World.ownsRow.lt h.own g rfl).2
end
theorem XZ {W wx:World} (_:Ext No W wx) (g o:Nat) (u:Value):Ext (At g) wx (wx.setCell ⟨g,o,none⟩ u):=(Ext.refl (At g) _).setCell (p:=⟨g,o,none⟩) (fun _=>rfl) _
theorem Iq (m b:Nat):dz m (2 ^ b)|||2 ^ b=m|||2 ^ b:=Nat.eq_of_testBit_eq fun j=>by
 rw [Nat.testBit_or,Nat.testBit_or,eG]
 cases m.testBit j<;>cases (2 ^ b).testBit j<;>rfl
set_option maxRecDepth 100000 in
set_option maxHeartbeats 2000000 in
theorem Kj (M:Nat→Prop) (w m b:Nat) (sl:Value) (W:World) (hM:∀b,M b→b < W.heap.size) (hb:b < w) (h:aG No W sl w m):
  Calls Tryz.prog 145 #[.agg #[.int .i64 (w:Int),sl],.int .i64 (b:Int),.bool true] W (iq M w (m|||2 ^ b) W):=by
 have H:=aa h
 obtain ⟨a,c,rfl⟩:=h.slice
 have hv:=dI h.hw h.hm
 have hw:=h.hw
 have hm:=h.hm
 clear h
 have hpos:0 < w:=by omega
 have hin:mh (bJ w m).width b=true:=decide_eq_true ⟨by omega,by show (b:Int) < (w:Int);omega⟩
 go_enter Tryz.func145,Tryz.ntmps145
 go_wp2_with fail
 refine (eH _ (bJ w m) _ (H.raw.aj (((Ext.refl _ _).alloc _).alloc _))).mono ?_
 rintro e1 w1 ⟨rfl,hx1⟩
 rw [hv]
 have hB:=hx1.blk (ay (ah (w:=W) rfl)) (fun x=>x.elim)
 have hC:=hx1.blk (n:=W.heap.size+1) (ah (by simp)) (fun x=>x.elim)
 have hxa:Ext No W w1:=(((Ext.refl _ _).alloc _).alloc _).af hx1
 have cB:=cellOf hB
 clear hx1
 go_wp2_with fail
 refine (vE _ (bJ w m) b _ (H.raw.aj hxa)).mono ?_
 rintro e2 w2 ⟨rfl,hx2⟩
 rw [hin]
 replace hB:=hx2.blk hB (fun x=>x.elim)
 replace hC:=hx2.blk hC (fun x=>x.elim)
 replace hxa:=hxa.af hx2
 clear hx2 cB
 have cB:=cellOf hB
 have oJ:=lt_of_block hC
 go_wp2_with fail
 go_cut [8] (fun s8 wx=>Ak W w m s8 wx)
 case first=>
  have l0:w2.cell? ⟨W.heap.size,0,none⟩=some (.int .i64 (w:Int)):=cB 0
  have l1:w2.cell? ⟨W.heap.size,1,none⟩=some (.slice a (nw w) c):=cB 1
  have l2:Ext No w2 w2:=Ext.refl _ _
  have HSD:Hid (w2.heap.size=w2.drew.heap.size):=aa rfl
  have ku:W.heap.size < w2.heap.size:=by omega
  have acy:W.heap.size+2≤w2.drew.heap.size:=oJ
  go_region_held3 (fun w'=>w'.cell? ⟨W.heap.size,0,none⟩=some (.int .i64 (w:Int))∧w'.cell? ⟨W.heap.size,1,none⟩=some (.slice a (nw w) c)∧Ext No w2 w')
   ((go_split_ands;refine ⟨?_,?_,?_⟩;(first|((with_reducible refine gZ ?_ ?_);(first|(with_reducible assumption)|(with_reducible exact bf aF (by with_reducible assumption)));(exact Nat.ne_of_lt ku))|(with_reducible assumption)|(with_reducible exact keepD (by with_reducible assumption))|(with_reducible exact aO (by with_reducible assumption))|(with_reducible exact keepD (aO (by with_reducible assumption)))|(with_reducible exact aO (keepD (by with_reducible assumption)))|(with_reducible exact bf aF (by with_reducible assumption))|(with_reducible exact aO (bf aF (by with_reducible assumption))));(first|((with_reducible refine gZ ?_ ?_);(first|(with_reducible assumption)|(with_reducible exact bf aF (by with_reducible assumption)));(exact Nat.ne_of_lt ku))|(with_reducible assumption)|(with_reducible exact keepD (by with_reducible assumption))|(with_reducible exact aO (by with_reducible assumption))|(with_reducible exact keepD (aO (by with_reducible assumption)))|(with_reducible exact aO (keepD (by with_reducible assumption)))|(with_reducible exact bf aF (by with_reducible assumption))|(with_reducible exact aO (bf aF (by with_reducible assumption))));(first|((with_reducible refine gG ?_ ?_);(first|(with_reducible assumption)|(with_reducible exact Ext.af (by with_reducible assumption) aF));(exact Nat.le_refl _))|(with_reducible assumption)|(with_reducible exact Ext.drew (by with_reducible assumption))|(with_reducible exact Ext.alloc (by with_reducible assumption) _)|(with_reducible exact Ext.drew (Ext.alloc (by with_reducible assumption) _))|(with_reducible exact Ext.af (by with_reducible assumption) aF)|(with_reducible exact Ext.alloc (Ext.af (by with_reducible assumption) aF) _))))
   (first|((go_at_call 94);(try go_split_ands);(with_reducible refine (Gp _ (aY w m) _ ?_ ?_).mono ?_);(exact H.words.aj (hxa.af (by with_reducible assumption)));(rw [aX];unfold nw;omega);(rintro e3 w3 ⟨v3,rfl,hown,aF⟩);(obtain ⟨g,adq,hsl,hbg,hgw⟩:=hown.XY hpos);(subst hsl);(have hx3:=aa (Ext.af (show Ext No w2 _ from by with_reducible assumption) aF));(first|((with_reducible have hi:=aF.blk (ah (n:=w2.heap.size) (w:=w2.drew) (o:= .cells #[.int .i64 0,.slice none 0 0] 44) HSD.out) ax);(have HD:=aa hi);(have cD:=cellOf hi);(have fD:=aH hi);(clear hi);(have acz:=RX hbg))|skip)))
  all_goals
   go_wp2_with fail
   go_meet
   first
   |(with_reducible exact Ak.late (hxa.af hx3.out) hown acy (Ext.blk hx3.out hC ax) hgw)
   |(with_reducible exact Ak.early (hxa.af hx3.out) hown oJ (Ext.blk hx3.out hC ax) HD.out acz)
 case rest=>
  obtain ⟨D,g,cap,rfl,hD,hown,hx,hBD,WW,hC3⟩:=hcut
  clear hxa hB hC oJ cB
  have hl:=aX w m
  have hn:b / 64 < nw w:=by unfold nw;omega
  have HO:=aa (hown.set' (b / 64) (dz (dD m (b / 64)) (p2 (b % 64))) (lY (gN _ _)))
  rw [show dz (dD m (b / 64)) (p2 (b % 64))=dz (dD m (b / 64)) (2 ^ (b % 64)) from rfl,BV w m b hb] at HO
  have hc:=hown.at' hn
  have hf:=hown.free' (b / 64)
  have hbg:W.heap.size+2≤g:=hown.low
  have hgw:=hown.lt'
  clear hown
  have hk0:(0:Int)≤(b:Int):=by omega
  have hk2:(b:Int)≤256:=by omega
  have hu:IntKind.u64.wrap (b:Int)=b:=qV b (by omega)
  have h64:b % 64 < 64:=Nat.mod_lt _ (by decide)
  have hsh:=Lg h64
  have hand:=zq (dD m (b / 64)) (p2 (b % 64)) (gN _ _)
  have cD:=cellOf hD
  have adr:¬D=g:=WW
  have ads:¬g=D:=fun e=>WW e.symm
  go_wp2_with fail
  have hx4:=XZ hx g (b / 64) (.int .u64 (dz (dD m (b / 64)) (p2 (b % 64)):Nat))
  refine (Nh (W.heap.size+2) g cap w (dz m (2 ^ b)) b hb hw _ HO (by simp [World.setCell];exact hgw) hbg).mono ?_
  rintro e5 w5 ⟨rfl,YB,hx5,hs5⟩
  rw [Iq] at YB
  have hx6:=hx4.trans hx5
  have hD5:=hx6.blk hD WW
  have hC5:=hx6.blk hC3 (by unfold At;omega)
  have hx7:Ext No W w5:=hx.aJ hx6 (fun i hi e=>by unfold At at e;omega)
  have Wo:=aa YB
  have hm2:m|||2 ^ b < 2 ^ w:=fZ hm (eZ hb)
  clear cD hD hC3 hx hx4 hx5 hx6 YB HO hc hf hs5
  have cD:=cellOf hD5
  have cC:=cellOf hC5
  have fC:=aH hC5
  go_wp2_with fail
  refine aW rfl ?_
  simp [results,Tryz.results145,go_sem,cC]
  refine ⟨_,_,rfl,Wo.fin (W0:=W) (by omega) hM ?_ hw hm2,?_⟩
  ·exact ((Ext.refl (Lo (W.heap.size+2)) _).setCell (p:=⟨W.heap.size+1,0,none⟩) (fun _=>Nat.lt_succ_self _) _).setCell (p:=⟨W.heap.size+1,1,none⟩) (fun _=>Nat.lt_succ_self _) _
  exact gG hx7 (by omega)
end Go.Proofs.YtmddchceacmopaaGreatDoor
namespace Go.Proofs.YtmddchceacmopaaGreatDoor
open Go Go.RowKit
set_option maxRecDepth 100000 in
set_option maxHeartbeats 1000000 in
theorem wQ (M:Nat→Prop) (w m b:Nat) (sl:Value) (W:World) (hM:∀b,M b→b < W.heap.size) (hb:b < w) (h:aG No W sl w m):
  Calls Tryz.prog 127 #[.agg #[.int .i64 (w:Int),sl],.int .i64 (b:Int)] W (iq M w (m|||2 ^ b) W):=by
 have H:=aa h
 obtain ⟨a,c,rfl⟩:=h.slice
 clear h
 go_enter Tryz.func127,Tryz.ntmps127
 go_wp2_with fail
 refine (Kj (Xx M W.heap.size) w m b _ _ (U7 hM) hb (H.aj (((Ext.refl _ _).alloc _).alloc _))).mono ?_
 rintro e1 w1 ⟨a1,c1,rfl,hs1,hx1⟩
 have hC:=hx1.blk (n:=W.heap.size+1) (ah (by simp)) (fun x=>x.elim)
 have hxa:Ext No W w1:=(((Ext.refl _ _).alloc _).alloc _).af hx1
 have cC:=cellOf hC
 have fC:=aH hC
 clear hx1
 go_wp2_with fail
 refine aW rfl ?_
 simp [results,Tryz.results127,go_sem,cC]
 exact ⟨_,_,rfl,hs1.RV (RU hxa),gG hxa (by omega)⟩
theorem O9 (x y:Nat) (hx:x < 2 ^ 64) (_:y < 2 ^ 64) (W:World):Calls Tryz.prog 143 #[.int .u64 (x:Int),.int .u64 (y:Int)] W fun e w'=>e= .returned (.int .u64 (dz x y:Nat))∧W=w':=by
 have h:=zq x y hx
 go_enter Tryz.func143,Tryz.ntmps143
 exact ko
theorem Mf (x y:Nat) (hx:x < 2 ^ 64) (hy:y < 2 ^ 64) (W:World):Calls Tryz.prog 90 #[.int .u64 (x:Int),.int .u64 (y:Int)] W fun e w'=>e= .returned (.int .u64 ((x|||y:Nat):Int))∧W=w':=by
 have h:=H7 x y hx hy
 go_enter Tryz.func90,Tryz.ntmps90
 exact ko
end Go.Proofs.YtmddchceacmopaaGreatDoor
namespace Go.Proofs.YtmddchceacmopaaGreatDoor
open Go Go.RowKit
def oN (n:Nat):Array Value:=madeCells (Value.cells (.int .u64 0)) (n*1)
theorem Bt (n:Nat):(oN n).toList=iY (List.replicate n 0):=by
 refine List.ext_getElem? (fun i=>?_)
 simp only [oN,madeCells,iY,List.map_replicate]
 by_cases h:i < n
 ·simp [h,Value.cells,Nat.mod_one]
 simp [h]
theorem rq (n:Nat) (hn:n≤1000) (w:World):(Instr.makeSlice 42 (.int .i64 (n:Int)) (.int .i64 (n:Int))).run Tryz.prog w= .ok (.slice (some ⟨w.heap.size,0,none⟩) n n) (w.alloc (.cells (oN n) 108)):=by
 obtain ⟨i,hi,hz0,hz1,hz2⟩:=info_parts We
 have h:=run_makeSlice (P:= Tryz.prog) w 42 108 i _ Tryz.underlying42 hi hz0 .i64 .i64 n n (by omega) (Int.le_refl _) (by rw [hz1];simp;omega) (by rw [hz2];omega) (by omega)
 simp only [Int.toNat_natCast,hz1] at h
 exact h
theorem gY.zero {W:World} {base w:Nat} (hb:base≤W.heap.size) (hw:w≤256):gY (W.alloc (.cells (oN (nw w)) 108)) base (.slice (some ⟨W.heap.size,0,none⟩) (nw w) (nw w)) (aY w 0):=by
 have h:=World.ownsRow_lit (base:=base) (e:= 108) (size:=1) W (oN (nw w)) (nw w) hb (by simp only [maxLen];unfold nw;omega) (by simp [oN,madeCells])
 rw [Bt,←zz] at h
 exact ⟨by rw [aX];exact h,adP w 0⟩
def uz (op:Nat→Nat→Nat) (w m k i:Nat):List Nat:=(List.range (nw w)).map fun j=>if j < i then op (dD m j) (dD k j) else 0
theorem jO (op:Nat→Nat→Nat) (w m k i:Nat):(uz op w m k i).length=nw w:=by simp [uz]
theorem Bu (op:Nat→Nat→Nat) (w m k:Nat):uz op w m k 0=aY w 0:=by
 refine List.ext_getElem (by simp [jO,aX]) (fun i h1 h2=>?_)
 rw [gL,Bh];simp [uz]
theorem Mg (op:Nat→Nat→Nat) (w m k i:Nat):(uz op w m k i).set i (op (dD m i) (dD k i))=uz op w m k (i+1):=by
 refine List.ext_getElem (by simp [jO]) (fun j h1 h2=>?_)
 rw [List.getElem_set]
 simp only [uz,List.getElem_map,List.getElem_range]
 by_cases h:i=j
 ·subst h;simp
 rw [if_neg h]
 by_cases h3:j < i
 ·rw [if_pos h3,if_pos (by omega)]
 rw [if_neg h3,if_neg (by omega)]
theorem Gq {op opm:Nat→Nat→Nat} (h:∀a b i,dD (opm a b) i=op (dD a i) (dD b i)) (w m k:Nat):uz op w m k (nw w)=aY w (opm m k):=by
 refine List.ext_getElem (by simp [jO,aX]) (fun i h1 h2=>?_)
 rw [gL,h]
 rw [jO] at h1
 simp [uz,h1]
structure eU (W:World) (op:Nat→Nat→Nat) (w m k D g i:Nat) (s1 s2:Value) (wr:World):Prop where
 ext:Ext No W wr
 bW:wr.heap[W.heap.size]? =some (.cells #[.int .i64 (w:Int),s1] 44 (0,0))
 dQ:wr.heap[W.heap.size+1]? =some (.cells #[.int .i64 (w:Int),s2] 44 (0,0))
 bV:wr.heap[W.heap.size+2]? =some (.cells #[.int .i64 0,.slice none 0 0] 44 (0,0))
 dB:wr.heap[D]? =some (.cells #[.int .i64 (w:Int),.slice (some ⟨g,0,none⟩) (nw w) (nw w)] 44 (0,0))
 own:gY wr (W.heap.size+3) (.slice (some ⟨g,0,none⟩) (nw w) (nw w)) (uz op w m k i)
 big:W.heap.size+2 < D
 ne:D≠g
 low:W.heap.size+3≤g
theorem eU.mk1 {W w2:World} (op:Nat→Nat→Nat) {w:Nat} (m k:Nat) {s1 s2:Value} (hx:Ext No W w2) (hA:w2.heap[W.heap.size]? =some (.cells #[.int .i64 (w:Int),s1] 44 (0,0))) (hB:w2.heap[W.heap.size+1]? =some (.cells #[.int .i64 (w:Int),s2] 44 (0,0)))
  (hC:w2.heap[W.heap.size+2]? =some (.cells #[.int .i64 0,.slice none 0 0] 44 (0,0))) (hw:w≤256):
  ∃D g,Value.pointer (some ⟨w2.heap.size+1,0,none⟩)= .pointer (some ⟨D,0,none⟩)∧eU W op w m k D g 0 s1 s2 ((w2.alloc (.cells (oN (nw w)) 108)).alloc (.cells #[.int .i64 (w:Int),.slice (some ⟨w2.heap.size,0,none⟩) (nw w) (nw w)] 44)).drew:=by
 have hs:=lt_of_block hC
 refine ⟨w2.heap.size+1,w2.heap.size,rfl,((hx.alloc _).alloc _).drew,ay (ay hA),ay (ay hB),ay (ay hC),ah (by simp),?_,by omega,by omega,hs⟩
 rw [Bu]
 exact ((gY.zero (base:=W.heap.size+3) hs hw).ext (M:=No) ((Ext.refl _ _).alloc _) (fun _ _ x=>x)).ext (M:=No) (Ext.refl _ _).drew (fun _ _ x=>x)
theorem eU.mk2 {W w2:World} (op:Nat→Nat→Nat) {w:Nat} (m k:Nat) {s1 s2:Value} (hx:Ext No W w2) (hA:w2.heap[W.heap.size]? =some (.cells #[.int .i64 (w:Int),s1] 44 (0,0))) (hB:w2.heap[W.heap.size+1]? =some (.cells #[.int .i64 (w:Int),s2] 44 (0,0)))
  (hC:w2.heap[W.heap.size+2]? =some (.cells #[.int .i64 0,.slice none 0 0] 44 (0,0))) (hw:w≤256):
  ∃D g,Value.pointer (some ⟨w2.heap.size,0,none⟩)= .pointer (some ⟨D,0,none⟩)∧eU W op w m k D g 0 s1 s2 ((w2.alloc (.cells #[.int .i64 (w:Int),.slice (some ⟨w2.heap.size+1,0,none⟩) (nw w) (nw w)] 44)).alloc (.cells (oN (nw w)) 108)).drew:=by
 have hs:=lt_of_block hC
 refine ⟨w2.heap.size,w2.heap.size+1,rfl,((hx.alloc _).alloc _).drew,ay (ay hA),ay (ay hB),ay (ay hC),ay (ah rfl),?_,by omega,by omega,by omega⟩
 rw [Bu]
 have h:=gY.zero (W:=w2.alloc (.cells #[.int .i64 (w:Int),.slice (some ⟨w2.heap.size+1,0,none⟩) (nw w) (nw w)] 44)) (base:=W.heap.size+3) (by simp;omega) hw
 have e:(w2.alloc (.cells #[.int .i64 (w:Int),.slice (some ⟨w2.heap.size+1,0,none⟩) (nw w) (nw w)] 44)).heap.size=w2.heap.size+1:=by simp
 rw [e] at h
 exact h.ext (M:=No) (Ext.refl _ _).drew (fun _ _ x=>x)
section
variable {W wr:World} {op:Nat→Nat→Nat} {w m k D g j:Nat} {s1 s2:Value}
theorem eU.drewN (h:eU W op w m k D g j s1 s2 wr) (n:Nat):eU W op w m k D g j s1 s2 (wr.drewN n):=
 ⟨h.ext.drewN n,h.bW,h.dQ,h.bV,h.dB,h.own.ext (M:=No) ((Ext.refl _ _).drewN n) (fun _ _ x=>x),h.big,h.ne,h.low⟩
theorem eU.free (h:eU W op w m k D g j s1 s2 wr) (i:Nat):wr.frozen? ⟨g,i,none⟩=false:=by
 have:=h.own
 rw [←jO op w m k j] at this
 exact this.free i
theorem eU.Wh (h:eU W op w m k D g j s1 s2 wr) {i:Nat} (hi:i < nw w):∃u,wr.cell? ⟨g,i,none⟩=some u:=by
 have:=h.own
 rw [←jO op w m k j] at this
 exact ⟨_,this.at (i:=i) (by rw [jO];exact hi)⟩
theorem eU.store (h:eU W op w m k D g j s1 s2 wr) (_:j < nw w) (hlt:op (dD m j) (dD k j) < 2 ^ 64):eU W op w m k D g (j+1) s1 s2 (wr.setCell ⟨g,j,none⟩ (.int .u64 (op (dD m j) (dD k j):Nat))):=by
 have h1:=h.low
 have h2:=h.big
 have h3:=h.ne
 have ho:=h.own
 rw [←jO op w m k j] at ho
 have hs:=ho.set j (op (dD m j) (dD k j)) hlt
 rw [Mg,jO] at hs
 refine ⟨h.ext.own (by simp only;omega) _,lJ h.bW (by simp only;omega),lJ h.dQ (by simp only;omega),lJ h.bV (by simp only;omega),lJ h.dB (by simpa using h3),hs,h2,h3,h1⟩
end
end Go.Proofs.YtmddchceacmopaaGreatDoor
namespace Go.Proofs.YtmddchceacmopaaGreatDoor
open Go Go.RowKit
def gP (a b:Nat):Nat:=a|||b
theorem Pb (a b i:Nat):dD (gP a b) i=gP (dD a i) (dD b i):=JA a b i
theorem pX {a b w:Nat} (h:a < 2 ^ w) (h2:b < 2 ^ w):gP a b < 2 ^ w:=Nat.or_lt_two_pow h h2
set_option maxRecDepth 100000 in
set_option maxHeartbeats 2000000 in
theorem Mh (M:Nat→Prop)
  (w m k:Nat) (s1 s2:Value) (W:World) (hM:∀b,M b→b < W.heap.size) (h1:aG No W s1 w m) (h2:aG No W s2 w k):
  Calls Tryz.prog 89 #[.agg #[.int .i64 (w:Int),s1],.agg #[.int .i64 (w:Int),s2],.func (.func 143) #[] #[]] W (iq M w ((dz m k)) W):=by
 have H1:=aa h1
 have H2:=aa h2
 obtain ⟨a1,c1,rfl⟩:=h1.slice
 obtain ⟨a2,c2,rfl⟩:=h2.slice
 have hv1:=dI h1.hw h1.hm
 have hv2:=dI h2.hw h2.hm
 have hw:=h1.hw
 have hm2:=aa (lY (b:=k) h1.hm)
 have HM:=aa hM
 clear h1 h2 hM
 go_enter Tryz.func89,Tryz.ntmps89
 go_wp2_with fail
 refine (eH _ (bJ w m) _ (H1.raw.aj ((((Ext.refl _ _).alloc _).alloc _).alloc _))).mono ?_
 rintro e1 w1 ⟨rfl,hx1⟩
 rw [hv1]
 have hA:=hx1.blk (ay (ay (ah (w:=W) rfl))) ax
 have hB:=hx1.blk (n:=W.heap.size+1) (ay (ah (by simp))) ax
 have hC:=hx1.blk (n:=W.heap.size+2) (ah (by simp)) ax
 have hxa:Ext No W w1:=((((Ext.refl _ _).alloc _).alloc _).alloc _).af hx1
 have cB:=cellOf hB
 clear hx1
 go_wp2_with fail
 refine (eH _ (bJ w k) _ (H2.raw.aj hxa)).mono ?_
 rintro e2 w2 ⟨rfl,hx2⟩
 rw [hv2]
 replace hA:=hx2.blk hA ax
 replace hB:=hx2.blk hB ax
 replace hC:=hx2.blk hC ax
 replace hxa:=hxa.af hx2
 clear hx2 cB
 have cA:=cellOf hA
 have cB:=cellOf hB
 have oJ:=lt_of_block hC
 have Qr:W.heap.size < w2.heap.size:=by omega
 have ku:W.heap.size+1 < w2.heap.size:=by omega
 have hmk:=rq (nw w) (by unfold nw;omega)
 go_wp2_with fail
 go_cut [8] (fun s8 wx=>∃D g,s8= .pointer (some ⟨D,0,none⟩)∧eU W (dz) w m k D g 0 (.slice a1 (nw w) c1) (.slice a2 (nw w) c2) wx)
 case first=>
  go_region
  all_goals
   go_wp2_with fail
   go_meet
   first
   |exact eU.mk1 (dz) m k hxa hA hB hC hw
   |exact eU.mk2 (dz) m k hxa hA hB hC hw
 case rest=>
  obtain ⟨D,g,rfl,hm⟩:=hcut
  clear hA hB hC hxa cA cB oJ Qr ku hmk
  have VA:=aa hm
  have cD:=cellOf hm.dB
  clear hm
  go_wp2_with fail
  go_loopw [37] (fun i wr=>∃j:Nat,j≤nw w∧i= .int .i64 j∧Hid (eU W (dz) w m k D g j (.slice a1 (nw w) c1) (.slice a2 (nw w) c2) wr)) (fun i _=>nw w - (intOf i).toNat)
  case atStart=>exact ⟨0,Nat.zero_le _,rfl,VA⟩
  clear VA cD
  obtain ⟨j,hj,rfl,hm⟩:=hrel
  have cA:=cellOf hm.bW
  have cB:=cellOf hm.dQ
  have cD:=cellOf hm.dB
  by_cases hlt:j < nw w
  ·obtain ⟨b1,o1,p1,hsl,_,_,hc1⟩:=H1.at (by omega)
   simp only [Value.slice.injEq] at hsl
   obtain ⟨rfl,_,rfl⟩:=hsl
   obtain ⟨b2,o2,p2,hsl,_,_,hc2⟩:=H2.at (by omega)
   simp only [Value.slice.injEq] at hsl
   obtain ⟨rfl,_,rfl⟩:=hsl
   have hx1:=hm.ext.keep (hc1 j hlt)
   have hx2:=hm.ext.keep (hc2 j hlt)
   have hf:=hm.free j
   have hcg:=hm.Wh hlt
   have HS:=aa (hm.store hlt (lY (gN m j)))
   clear hc1 hc2
   have hnw:nw w≤5:=by unfold nw;omega
   have hj0:(0:Int)≤(j:Int):=by omega
   have hj1:(j:Int) < (nw w:Int):=by omega
   go_wp2_with fail
   go_still_tail 16,(by kernel_rfl)
   still_call ((O9 _ _ (gN m j) (gN k j) _).mono (fun _ _ h=>⟨h.1,h.2.symm⟩))
   exact Gn
  obtain rfl:j=nw w:=by omega
  have cC:=cellOf hm.bV
  have fC:=aH hm.bV
  have ho:=hm.own
  rw [Gq Bg] at ho
  exact Gm
set_option maxRecDepth 100000 in
set_option maxHeartbeats 2000000 in
theorem Kk (M:Nat→Prop)
  (w m k:Nat) (s1 s2:Value) (W:World) (hM:∀b,M b→b < W.heap.size) (h1:aG No W s1 w m) (h2:aG No W s2 w k):
  Calls Tryz.prog 89 #[.agg #[.int .i64 (w:Int),s1],.agg #[.int .i64 (w:Int),s2],.func (.func 90) #[] #[]] W (iq M w ((gP m k)) W):=by
 have H1:=aa h1
 have H2:=aa h2
 obtain ⟨a1,c1,rfl⟩:=h1.slice
 obtain ⟨a2,c2,rfl⟩:=h2.slice
 have hv1:=dI h1.hw h1.hm
 have hv2:=dI h2.hw h2.hm
 have hw:=h1.hw
 have hm2:=aa (pX h1.hm h2.hm)
 have HM:=aa hM
 clear h1 h2 hM
 go_enter Tryz.func89,Tryz.ntmps89
 go_wp2_with fail
 refine (eH _ (bJ w m) _ (H1.raw.aj ((((Ext.refl _ _).alloc _).alloc _).alloc _))).mono ?_
 rintro e1 w1 ⟨rfl,hx1⟩
 rw [hv1]
 have hA:=hx1.blk (ay (ay (ah (w:=W) rfl))) ax
 have hB:=hx1.blk (n:=W.heap.size+1) (ay (ah (by simp))) ax
 have hC:=hx1.blk (n:=W.heap.size+2) (ah (by simp)) ax
 have hxa:Ext No W w1:=((((Ext.refl _ _).alloc _).alloc _).alloc _).af hx1
 have cB:=cellOf hB
 clear hx1
 go_wp2_with fail
 refine (eH _ (bJ w k) _ (H2.raw.aj hxa)).mono ?_
 rintro e2 w2 ⟨rfl,hx2⟩
 rw [hv2]
 replace hA:=hx2.blk hA ax
 replace hB:=hx2.blk hB ax
 replace hC:=hx2.blk hC ax
 replace hxa:=hxa.af hx2
 clear hx2 cB
 have cA:=cellOf hA
 have cB:=cellOf hB
 have oJ:=lt_of_block hC
 have Qr:W.heap.size < w2.heap.size:=by omega
 have ku:W.heap.size+1 < w2.heap.size:=by omega
 have hmk:=rq (nw w) (by unfold nw;omega)
 go_wp2_with fail
 go_cut [8] (fun s8 wx=>∃D g,s8= .pointer (some ⟨D,0,none⟩)∧eU W (gP) w m k D g 0 (.slice a1 (nw w) c1) (.slice a2 (nw w) c2) wx)
 case first=>
  go_region
  all_goals
   go_wp2_with fail
   go_meet
   first
   |exact eU.mk1 (gP) m k hxa hA hB hC hw
   |exact eU.mk2 (gP) m k hxa hA hB hC hw
 case rest=>
  obtain ⟨D,g,rfl,hm⟩:=hcut
  clear hA hB hC hxa cA cB oJ Qr ku hmk
  have VA:=aa hm
  have cD:=cellOf hm.dB
  clear hm
  go_wp2_with fail
  go_loopw [37] (fun i wr=>∃j:Nat,j≤nw w∧i= .int .i64 j∧Hid (eU W (gP) w m k D g j (.slice a1 (nw w) c1) (.slice a2 (nw w) c2) wr)) (fun i _=>nw w - (intOf i).toNat)
  case atStart=>exact ⟨0,Nat.zero_le _,rfl,VA⟩
  clear VA cD
  obtain ⟨j,hj,rfl,hm⟩:=hrel
  have cA:=cellOf hm.bW
  have cB:=cellOf hm.dQ
  have cD:=cellOf hm.dB
  by_cases hlt:j < nw w
  ·obtain ⟨b1,o1,p1,hsl,_,_,hc1⟩:=H1.at (by omega)
   simp only [Value.slice.injEq] at hsl
   obtain ⟨rfl,_,rfl⟩:=hsl
   obtain ⟨b2,o2,p2,hsl,_,_,hc2⟩:=H2.at (by omega)
   simp only [Value.slice.injEq] at hsl
   obtain ⟨rfl,_,rfl⟩:=hsl
   have hx1:=hm.ext.keep (hc1 j hlt)
   have hx2:=hm.ext.keep (hc2 j hlt)
   have hf:=hm.free j
   have hcg:=hm.Wh hlt
   have HS:=aa (hm.store hlt (pX (gN m j) (gN k j)))
   clear hc1 hc2
   have hnw:nw w≤5:=by unfold nw;omega
   have hj0:(0:Int)≤(j:Int):=by omega
   have hj1:(j:Int) < (nw w:Int):=by omega
   go_wp2_with fail
   go_still_tail 16,(by kernel_rfl)
   still_call ((Mf _ _ (gN m j) (gN k j) _).mono (fun _ _ h=>⟨h.1,h.2.symm⟩))
   exact Gn
  obtain rfl:j=nw w:=by omega
  have cC:=cellOf hm.bV
  have fC:=aH hm.bV
  have ho:=hm.own
  rw [Gq Pb] at ho
  exact Gm
set_option maxRecDepth 100000 in
set_option maxHeartbeats 1000000 in
theorem JE (M:Nat→Prop) (w m k:Nat) (s1 s2:Value) (W:World) (hM:∀b,M b→b < W.heap.size) (h1:aG No W s1 w m) (h2:aG No W s2 w k):
  Calls Tryz.prog 125 #[.agg #[.int .i64 (w:Int),s1],.agg #[.int .i64 (w:Int),s2]] W (iq M w (dz m k) W):=by
 have H1:=aa h1
 have H2:=aa h2
 obtain ⟨a1,c1,rfl⟩:=h1.slice
 obtain ⟨a2,c2,rfl⟩:=h2.slice
 clear h1 h2
 go_enter Tryz.func125,Tryz.ntmps125
 go_wp2_with fail
 have hx0:Ext No W (((W.alloc (.cells #[.int .i64 (w:Int),.slice a1 (nw w) c1] 44)).alloc (.cells #[.int .i64 (w:Int),.slice a2 (nw w) c2] 44)).alloc (.cells #[.int .i64 0,.slice none 0 0] 44)):=(((Ext.refl _ _).alloc _).alloc _).alloc _
 refine (Mh (fun b=>M b∨b=W.heap.size+2) w m k _ _ _ (fun b hb=>?_) (H1.aj hx0) (H2.aj hx0)).mono ?_
 ·simp
  rcases hb with hb|hb
  ·have:=hM b hb;omega
  omega
 rintro e1 w1 ⟨a3,c3,rfl,hs3,hx1⟩
 have hC:=hx1.blk (n:=W.heap.size+2) (ah (by simp)) ax
 have hxa:Ext No W w1:=hx0.af hx1
 have cC:=cellOf hC
 have fC:=aH hC
 clear hx1 hx0
 go_wp2_with fail
 refine aW rfl ?_
 simp [results,Tryz.results125,go_sem,cC]
 exact tC
set_option maxRecDepth 100000 in
set_option maxHeartbeats 1000000 in
theorem nu (M:Nat→Prop) (w m k:Nat) (s1 s2:Value) (W:World) (hM:∀b,M b→b < W.heap.size) (h1:aG No W s1 w m) (h2:aG No W s2 w k):
  Calls Tryz.prog 52 #[.agg #[.int .i64 (w:Int),s1],.agg #[.int .i64 (w:Int),s2]] W (iq M w (gP m k) W):=by
 have H1:=aa h1
 have H2:=aa h2
 obtain ⟨a1,c1,rfl⟩:=h1.slice
 obtain ⟨a2,c2,rfl⟩:=h2.slice
 clear h1 h2
 go_enter Tryz.func52,Tryz.ntmps52
 go_wp2_with fail
 have hx0:Ext No W (((W.alloc (.cells #[.int .i64 (w:Int),.slice a1 (nw w) c1] 44)).alloc (.cells #[.int .i64 (w:Int),.slice a2 (nw w) c2] 44)).alloc (.cells #[.int .i64 0,.slice none 0 0] 44)):=(((Ext.refl _ _).alloc _).alloc _).alloc _
 refine (Kk (fun b=>M b∨b=W.heap.size+2) w m k _ _ _ (fun b hb=>?_) (H1.aj hx0) (H2.aj hx0)).mono ?_
 ·simp
  rcases hb with hb|hb
  ·have:=hM b hb;omega
  omega
 rintro e1 w1 ⟨a3,c3,rfl,hs3,hx1⟩
 have hC:=hx1.blk (n:=W.heap.size+2) (ah (by simp)) ax
 have hxa:Ext No W w1:=hx0.af hx1
 have cC:=cellOf hC
 have fC:=aH hC
 clear hx1 hx0
 go_wp2_with fail
 refine aW rfl ?_
 simp [results,Tryz.results52,go_sem,cC]
 exact tC


import Derived.Lib.TrailingZeros
import Derived.Test.YtmddchceacmopaaGreatDoorTrC
set_option linter.unusedVariables false
set_option linter.unusedSimpArgs false
namespace Go.Proofs.YtmddchceacmopaaGreatDoor
open Go Go.RowKit
theorem GH {p:Prop} (h:p:=by
 rw [gW,decide_eq_true (by omega),Bool.true_and,show 64*k+(b - 64*k)=b by omega] at this
 exact this):p:=h
def f1 (b:Nat):Nat:=b / 2&&& 85
def g1 (b:Nat):Nat:=b&&& 85
def f2 (b:Nat):Nat:=b / 4&&& 51
def g2 (b:Nat):Nat:=b&&& 51
def s1 (b:Nat):Nat:=f1 b+g1 b
def s2 (b:Nat):Nat:=f2 b+g2 b
def s3 (b:Nat):Nat:=b / 16+b % 16
def aaP (b:Nat):Nat:=s3 (s2 (s1 b))
theorem b1:∀b,b < 256→b&&& 170=2*f1 b∧s1 b < 256∧s2 (s1 b) < 256∧s2 (s1 b) / 16≤4∧s2 (s1 b) % 16≤4∧(s1 b&&& 204)=4*f2 (s1 b)∧aaP b≤8∧(aaP b=0→b=0):=by decide+kernel
def m1:Nat:=3689348814741910323
def m2:Nat:=1085102592571150095
def big:Nat:=18446744073709551616
end Go.Proofs.YtmddchceacmopaaGreatDoor
namespace Go.Proofs.YtmddchceacmopaaGreatDoor
open Go Go.RowKit
def qU:Nat→(Nat→Bool)→Nat
 |0,_=>0
 |w+1,p=>qU w p|||(if p w then 2 ^ w else 0)
theorem lI (w:Nat) (p:Nat→Bool) (b:Nat):(qU w p).testBit b=(decide (b < w)&&p b):=by
 induction w with
 |zero=>simp [qU]
 |succ w ih=>
  rw [qU,Nat.testBit_or,ih]
  by_cases h:b=w
  ·subst h
   cases hp:p b<;>simp
  have e:(if p w=true then 2 ^ w else 0:Nat).testBit b=false:=by
   split
   ·rw [Nat.testBit_two_pow];exact decide_eq_false (fun e=>h e.symm)
   simp
  rw [e,Bool.or_false]
  congr 1
  apply decide_eq_decide.2
  omega
theorem wL (w:Nat) (p:Nat→Bool):qU w p < 2 ^ w:=by
 refine Nat.lt_pow_two_of_testBit _ (fun i hi=>?_)
 rw [lI,decide_eq_false (by omega)];rfl
theorem ru {m w b:Nat} (h:m < 2 ^ w) (hb:w≤b):m.testBit b=false:=Nat.testBit_lt_two_pow (Nat.lt_of_lt_of_le h (Nat.pow_le_pow_right (by decide) hb))
theorem oU {m k w:Nat} (h1:m < 2 ^ w) (h2:k < 2 ^ w) (h:∀b,b < w→m.testBit b=k.testBit b):m=k:=Nat.eq_of_testBit_eq fun b=>by
 by_cases hb:b < w
 ·exact h b hb
 rw [ru h1 (by omega),ru h2 (by omega)]
theorem qY {m w:Nat} {p:Nat→Bool} (h1:m < 2 ^ w) (h:∀b,b < w→m.testBit b=p b):m=qU w p:=
 oU h1 (wL w p) (fun b hb=>by rw [lI,decide_eq_true hb,h b hb];rfl)
theorem oD {w:Nat} {p q:Nat→Bool} (h:∀b,b < w→p b=q b):qU w p=qU w q:=
 qY (wL w p) (fun b hb=>by rw [lI,decide_eq_true hb,h b hb];rfl)
theorem or_bit (m b j:Nat):(m|||2 ^ b).testBit j=(m.testBit j||decide (b=j)):=by rw [Nat.testBit_or,Nat.testBit_two_pow]
theorem Nf (b j:Nat):(2 ^ b).testBit j=decide (b=j):=Nat.testBit_two_pow
def bU (w m:Nat):List Int:=((List.range w).filter fun b=>m.testBit b).map fun (b:Nat)=>(b:Int)
theorem jQ {w m:Nat} {x:Int}:x∈bU w m↔∃b:Nat,x=b∧b < w∧m.testBit b=true:=by
 unfold bU
 simp only [List.mem_map,List.mem_filter,List.mem_range]
 constructor
 ·rintro ⟨b,⟨h1,h2⟩,rfl⟩;exact ⟨b,rfl,h1,h2⟩
 rintro ⟨b,rfl,h1,h2⟩;exact ⟨b,⟨h1,h2⟩,rfl⟩
theorem mR (w m:Nat):(bU w m).length≤w:=by
 unfold bU
 rw [List.length_map]
 have:=List.length_filter_le (fun b=>m.testBit b) (List.range w)
 rwa [List.length_range] at this
def ed (m k:Nat):List Int:=bU k m
theorem qj (m k:Nat):ed m (k+1)=ed m k++(if m.testBit k then [(k:Int)] else []):=by
 unfold ed bU
 rw [List.range_succ,List.filter_append,List.map_append]
 congr 1
 simp only [List.filter_cons,List.filter_nil]
 split<;>rfl
theorem vD (m:Nat):ed m 0=[]:=rfl
theorem vF {m k j:Nat} (hkj:k≤j) (h:∀b,k≤b→b < j→m.testBit b=false):ed m j=ed m k:=by
 induction j with
 |zero=>
  have:k=0:=by omega
  subst this;rfl
 |succ j ih=>
  by_cases e:k=j+1
  ·subst e;rfl
  rw [qj,h j (by omega) (by omega),ih (by omega) (fun b h1 h2=>h b h1 (by omega))]
  simp
theorem mQ {w m k:Nat} (hm:m < 2 ^ w) (h:w≤k):ed m k=bU w m:=
 vF (m:=m) h (fun b hb _=>ru hm hb)
end Go.Proofs.YtmddchceacmopaaGreatDoor
namespace Go.Proofs.YtmddchceacmopaaGreatDoor
open Go Go.RowKit
theorem jJ (w:World) (o:Obj):(w.alloc o).heap.size=w.heap.size+1:=by simp
set_option maxHeartbeats 400000 in
theorem Bw (M:Nat→Prop) (w:Nat) (W:World) (hM:∀b,M b→b < W.heap.size) (hw:w≤256):Calls Tryz.prog 122 #[.int .i64 (w:Int)] W (iq M w 0 W):=by
 have hmk:=rq (nw w) (by unfold nw;omega)
 have hr:kH w=true:=decide_eq_true ⟨by omega,by omega⟩
 go_enter Tryz.func122,Tryz.ntmps122
 go_wp2_with fail
 refine (lU _ _).mono ?_
 rintro e1 w1 ⟨rfl,rfl⟩
 rw [hr]
 go_wp2_with fail
 refine (pz w hw _).mono ?_
 rintro e2 w2 ⟨rfl,rfl⟩
 go_wp2_with fail
 have hC:((W.alloc (.cells #[.int .i64 (w:Int),.slice (some ⟨W.heap.size+1,0,none⟩) (nw w) (nw w)] 44)).alloc (.cells (oN (nw w)) 108)).heap[W.heap.size]? =some (.cells #[.int .i64 (w:Int),.slice (some ⟨W.heap.size+1,0,none⟩) (nw w) (nw w)] 44 (0,0)):=ay (ah rfl)
 have cC:=cellOf hC
 have ho:=gY.zero (W:=W.alloc (.cells #[.int .i64 (w:Int),.slice (some ⟨W.heap.size+1,0,none⟩) (nw w) (nw w)] 44)) (w:=w) (Nat.le_refl _) hw
 simp only [jJ] at ho
 refine aW rfl ?_
 simp [results,Tryz.results122,go_sem,cC]
 exact ⟨_,_,rfl,ho.fin (W0:=W) (Nat.le_succ _) hM (Ext.refl _ _) hw (Nat.two_pow_pos w),((Ext.refl _ _).alloc _).alloc _⟩
end Go.Proofs.YtmddchceacmopaaGreatDoor
namespace Go.Proofs.YtmddchceacmopaaGreatDoor
open Go Go.RowKit
theorem R5 (x k:Nat):(x:Int) / (k:Int)=((x / k:Nat):Int):=by simp
theorem wrapM (n:Nat):IntKind.u64.wrap (n:Int)=((n % 18446744073709551616:Nat):Int):=by
 simp only [IntKind.wrap,IntKind.bits,IntKind.signed]
 simp
end Go.Proofs.YtmddchceacmopaaGreatDoor
namespace Go.Proofs.YtmddchceacmopaaGreatDoor
open Go Go.RowKit
def eqW (l k:List Nat):Bool:=decide (l=k)
set_option maxRecDepth 100000 in
set_option maxHeartbeats 1000000 in
theorem Ml (l k:List Nat) (u v:Value) (W:World) (hu:aU No W u l) (hv:aU No W v k) (hl:l.length=k.length):Calls Tryz.prog 142 #[u,v] W (bZ (eqW l k) W):=by
 have HU:=aa hu
 have HV:=aa hv
 have HL:=aa hl
 obtain ⟨au,cu,rfl⟩:=hu.slice
 obtain ⟨av,cv,rfl⟩:=hv.slice
 have hbig:l.length≤9223372036854775807:=hu.row.2.1
 rw [←hl]
 clear hu hv hl
 go_enter Tryz.func142,Tryz.ntmps142
 go_wp2_with fail
 have hx0:Hid (Ext No W W):=aa (Ext.refl _ _)
 go_loopw [13] (fun i wr=>∃q:Nat,q≤l.length∧i= .int .i64 q∧Hid (∀j (h1:j < l.length) (h2:j < k.length),j < q→l[j]=k[j])∧Hid (Ext No W wr)) (fun i _=>l.length - (intOf i).toNat)
 case atStart=>exact yG
 clear hx0
 obtain ⟨q,hq0,rfl,hq,hx⟩:=hrel
 rename World=>wr
 have hpos:(0:Int)≤(q:Int):=by omega
 by_cases hlt:q < l.length
 ·have hlt2:q < k.length:=HL.out▸hlt
  obtain ⟨bu,ou,pu,hsu,_,_,KX⟩:=(HU.aj hx).at hlt
  obtain ⟨bv,ov,pv,hsv,_,_,hcv⟩:=(HV.aj hx).at hlt2
  rw [←HL] at hsv
  simp only [Value.slice.injEq] at hsu hsv
  obtain ⟨rfl,_,rfl⟩:=hsu
  obtain ⟨rfl,_,rfl⟩:=hsv
  have q0:=KX q hlt
  have q1:=hcv q hlt2
  obtain ⟨x,hxe⟩:∃x,x=l[q]:=⟨_,rfl⟩
  obtain ⟨y,hye⟩:∃y,y=k[q]:=⟨_,rfl⟩
  rw [←hxe] at q0
  rw [←hye] at q1
  have I9:=aa hxe
  have VL:=aa hye
  clear KX hcv hxe hye
  have HKK:Hid (Value.int .i64 ((q:Int)+1)= .int .i64 ((q+1:Nat):Int)):=aa (by rw [show ((q+1:Nat):Int)=(q:Int)+1 from by omega])
  have hlz:(q:Int) < (l.length:Int):=by omega
  by_cases he:x=y
  ·have hez:(x:Int)=(y:Int):=by omega
   go_wp2_with fail
   go_quiet (fail)
   go_wp2_with fail
   go_roundw
   case rel=>exact ⟨q+1,by omega,HKK,aa (fun j h1 h2 h3=>by
    by_cases hj:j < q
    ·exact hq j h1 h2 hj
    obtain rfl:j=q:=by omega
    rw [←I9,←VL,he]),aa (hx.drewN _)⟩
   case measure=>simp [intOf];omega
  have hez:¬(x:Int)=(y:Int):=by omega
  have e:eqW l k=false:=decide_eq_false (fun h=>he (by rw [I9,VL];simp only [h]))
  go_wp2_with fail
  go_quiet (fail)
  go_wp2_with fail
  go_ret
  rw [e]
  exact ⟨rfl,hx.drewN _⟩
 have hge:(l.length:Int)≤(q:Int):=by omega
 have e:eqW l k=true:=decide_eq_true (List.ext_getElem HL.out (fun j h1 h2=>hq j h1 h2 (by omega)))
 go_wp2_with fail
 go_ret
 rw [e]
 exact ⟨rfl,hx⟩
set_option maxRecDepth 100000 in
set_option maxHeartbeats 1000000 in
theorem Pn (w m k:Nat) (s1 s2:Value) (W:World) (h1:aG No W s1 w m) (h2:aG No W s2 w k):Calls Tryz.prog 124 #[.agg #[.int .i64 (w:Int),s1],.agg #[.int .i64 (w:Int),s2]] W (bZ (decide (m=k)) W):=by
 have H1:=aa h1
 have H2:=aa h2
 have hv1:=dI h1.hw h1.hm
 have hv2:=dI h2.hw h2.hm
 have he:eqW (aY w m) (aY w k)=decide (m=k):=decide_eq_decide.2 ⟨Bj h1.hm h2.hm,fun e=>by rw [e]⟩
 have HE:=aa he
 obtain ⟨a1,c1,rfl⟩:=h1.slice
 obtain ⟨a2,c2,rfl⟩:=h2.slice
 clear h1 h2 he
 go_enter Tryz.func124,Tryz.ntmps124
 go_wp2_with fail
 have hx0:Ext No W ((W.alloc (.cells #[.int .i64 (w:Int),.slice a1 (nw w) c1] 44)).alloc (.cells #[.int .i64 (w:Int),.slice a2 (nw w) c2] 44)):=((Ext.refl _ _).alloc _).alloc _
 refine (eH _ (bJ w m) _ (H1.raw.aj hx0)).mono ?_
 rintro e1 w1 ⟨rfl,hx1⟩
 rw [hv1]
 have hA:=hx1.blk (n:=W.heap.size) (ay (ah rfl)) ax
 have hB:=hx1.blk (n:=W.heap.size+1) (ah (by simp)) ax
 have hxa:=aa (hx0.af hx1)
 have HA:=aa hA
 have cB:=cellOf hB
 have HB:=aa hB
 clear hx0 hx1 hA hB
 go_wp2_with fail
 refine (eH _ (bJ w k) _ (H2.raw.aj hxa)).mono ?_
 rintro e2 w2 ⟨rfl,hx2⟩
 rw [hv2]
 have cA2:=cellOf (hx2.blk HA ax)
 have cB2:=cellOf (hx2.blk HB ax)
 have hxb:=aa (hxa.af hx2)
 clear hx2 cB HA HB hxa
 go_wp2_with fail
 refine (Ml _ _ _ _ _ (H1.words.aj hxb) (H2.words.aj hxb) (by rw [aX,aX])).mono ?_
 rintro e3 w3 ⟨rfl,hx3⟩
 rw [HE]
 have Iy:=hxb.af hx3
 clear hx3 HE
 go_wp2_with fail
 all_goals
  go_ret
  exact ⟨rfl,Iy⟩
end Go.Proofs.YtmddchceacmopaaGreatDoor
namespace Go.Proofs.YtmddchceacmopaaGreatDoor
open Go Go.RowKit
def iQ (w:World):Prop:=∀j,j < 64→w.cell? ⟨0,j,none⟩=some (.int .u8 (Lib.deBruijn64tab.getD j 0:Nat))
theorem iQ.xz {M:Nat→Prop} {w w':World} (h:iQ w) (hx:Ext M w w') (hM:¬M 0):iQ w':=fun j hj=>hx.oK (h j hj) hM
theorem iQ.ext {w w':World} (h:iQ w) (hx:Ext No w w'):iQ w':=h.xz hx ax
theorem iQ.pos {w:World} (h:iQ w): 0 < w.heap.size:=World.block_lt_of_cell? w _ (h 0 (by decide))
theorem Iu (a b:Nat) (ha:a < 2 ^ 64) (hb:b < 2 ^ 64):bits .and .u64 (a:Int) (b:Int)=((a&&& b:Nat):Int):=wN a b ha hb
theorem X9 (x a:Nat) (hx:x < 18446744073709551616) (hx0:x≠0) (hlow:x&&& (18446744073709551616 - x)=a):
  IntKind.u64.wrap (bits BinOp.and IntKind.u64 (x:Int) (IntKind.u64.wrap (-(x:Int)))*285870213051353865) / 288230376151711744=((a*285870213051353865 % 18446744073709551616 / 288230376151711744:Nat):Int):=by
 have e1:IntKind.u64.wrap (-(x:Int))=((18446744073709551616 - x:Nat):Int):=by
  simp only [IntKind.wrap,IntKind.bits,IntKind.signed];simp;omega
 rw [e1,Iu x _ hx (by omega),hlow,show ((a:Int)*285870213051353865)=((a*285870213051353865:Nat):Int) from by simp,wrapM]
 exact R5 _ 288230376151711744
set_option maxHeartbeats 400000 in
theorem Ve (x k idx:Nat) (W:World) (hx0:((x:Int)==0)=false)
  (key:IntKind.u64.wrap (bits BinOp.and IntKind.u64 (x:Int) (IntKind.u64.wrap (-(x:Int)))*285870213051353865) / 288230376151711744=(idx:Int))
  (hi:idx < 64) (hk:k < 64) (hcell:W.cell? ⟨0,idx,none⟩=some (.int .u8 (k:Int))):
  Calls Tryz.prog 147 #[.int .u64 (x:Int)] W fun e w'=>e= .returned (.int .i64 (k:Int))∧W=w':=by
 go_enter Tryz.func147,Tryz.ntmps147
 go_wp2_with (simp only [key])
 go_ret
 exact ⟨rfl,rfl⟩
theorem Ya (x:Nat) (hx:x < 18446744073709551616) (h0:x≠0) (W:World) (hT:iQ W):Calls Tryz.prog 147 #[.int .u64 (x:Int)] W fun e w'=>e= .returned (.int .i64 (Lib.ctz 64 x:Int))∧W=w':=by
 obtain ⟨hlow,hk⟩:=Lib.lowest_bit 64 x h0 hx
 obtain ⟨hi,htab⟩:=Lib.deBruijn64_at _ hk
 have hcell:=hT _ hi
 rw [htab] at hcell
 exact Ve x _ _ W (by simp;omega) (X9 x _ hx h0 hlow) hi hk hcell
theorem R6 (x:Nat) (h0:x≠0) (h:x < 2 ^ 64):x.testBit (Lib.ctz 64 x)=true∧(∀b,b < Lib.ctz 64 x→x.testBit b=false)∧Lib.ctz 64 x < 64∧(∀b,(x&&& (x - 1)).testBit b=(x.testBit b&&decide (b≠Lib.ctz 64 x))):=by
 obtain ⟨m,hm,hk⟩:=Lib.ctzFrom_spec 64 x (by omega) h
 have e:Lib.ctz 64 x=Lib.ctzFrom 64 x:=by simp [Lib.ctz,h0]
 rw [e]
 generalize Lib.ctzFrom 64 x=c at*
 have hp:=Nat.two_pow_pos c
 have hb1:∀b,x.testBit b=if b < c then false else (2*m+1).testBit (b - c):=fun b=>by
  have:=Nat.testBit_two_pow_mul_add (2*m+1) hp b
  rw [Nat.add_zero] at this
  rw [hm,this]
  split<;>simp
 have hb2:∀b,(x - 1).testBit b=if b < c then true else (2*m).testBit (b - c):=fun b=>by
  have e1:x - 1=2 ^ c*(2*m)+(2 ^ c - 1):=by rw [hm,Nat.mul_add,Nat.mul_one];omega
  rw [e1,Nat.testBit_two_pow_mul_add _ (by omega)]
  split
  ·rw [Nat.testBit_two_pow_sub_one];simpa using ‹b < c›
  rfl
 refine ⟨?_,?_,hk,?_⟩
 ·rw [hb1,if_neg (Nat.lt_irrefl _),Nat.sub_self];simp [Nat.testBit_zero]
 ·intro b hb;rw [hb1,if_pos hb]
 intro b
 rw [Nat.testBit_and,hb1,hb2]
 by_cases hb:b < c
 ·simp [hb]
 rw [if_neg hb,if_neg hb]
 by_cases he:b=c
 ·subst he;rw [Nat.sub_self];simp [Nat.testBit_zero]
 obtain ⟨d,rfl⟩:∃d,b=c+(d+1):=⟨b - c - 1,by omega⟩
 have e3:c+(d+1) - c=d+1:=by omega
 rw [e3,Nat.testBit_succ,Nat.testBit_succ,show (2*m+1) / 2=m by omega,show (2*m) / 2=m by omega]
 simp
structure Ai (x y j:Nat):Prop where
 lt:x < 2 ^ 64
 le:j≤64
 bit:∀b,x.testBit b=(y.testBit b&&decide (j≤b))
theorem Ai.start {y:Nat} (h:y < 2 ^ 64):Ai y y 0:=⟨h,by omega,fun b=>by simp⟩
theorem Ai.step {x y j:Nat} (h:Ai x y j) (h0:x≠0):Ai (x&&& (x - 1)) y (Lib.ctz 64 x+1)∧j≤Lib.ctz 64 x∧y.testBit (Lib.ctz 64 x)=true∧(∀b,j≤b→b < Lib.ctz 64 x→y.testBit b=false)∧x&&& (x - 1) < x∧Lib.ctz 64 x < 64:=by
 obtain ⟨h1,h2,h3,h4⟩:=R6 x h0 h.lt
 generalize Lib.ctz 64 x=c at*
 have hc:=h.bit c
 rw [h1] at hc
 have hc':y.testBit c=true∧j≤c:=by
  have:=hc.symm
  simpa using this
 have hlow:∀b,j≤b→b < c→y.testBit b=false:=fun b hj hb=>by
  have h5:=h.bit b
  rw [h2 b hb,decide_eq_true hj,Bool.and_true] at h5
  exact h5.symm
 refine ⟨⟨Nat.lt_of_le_of_lt Nat.and_le_left h.lt,by omega,fun b=>?_⟩,hc'.2,hc'.1,hlow,?_,h3⟩
 ·rw [h4 b,h.bit b]
  by_cases hb:c+1≤b
  ·simp [hb,show j≤b by omega,show b≠c by omega]
  rw [decide_eq_false hb,Bool.and_false]
  by_cases he:b=c
  ·simp [he]
  by_cases hj:j≤b
  ·rw [hlow b hj (by omega)];rfl
  simp [hj]
 have:x&&& (x - 1)≤x - 1:=Nat.and_le_right
 omega
theorem Ai.done {x y j:Nat} (h:Ai x y j) (h0:x=0):∀b,j≤b→y.testBit b=false:=fun b hb=>by
 have:=h.bit b
 subst h0
 rw [decide_eq_true hb,Bool.and_true,Nat.zero_testBit] at this
 exact this.symm
theorem Mm {m k x j:Nat} (h:Ai x (dD m k) j) (h0:x≠0):ed m (64*k+(Lib.ctz 64 x+1))=ed m (64*k+j)++[((64*k+Lib.ctz 64 x:Nat):Int)]:=by
 obtain ⟨_,h1,h2,h3,_,h5⟩:=h.step h0
 generalize Lib.ctz 64 x=c at*
 rw [←Nat.add_assoc,qj,vF (j:=64*k+c) (k:=64*k+j) (by omega)]
 ·congr 1
  have:=gW m k c
  rw [h2,decide_eq_true h5,Bool.true_and] at this
  rw [if_pos this.symm]
 intro b hb1 hb2
 have:=h3 (b - 64*k) (by omega) (by omega)
 exact GH
theorem Mo {m k x j:Nat} (h:Ai x (dD m k) j) (h0:x=0):ed m (64*(k+1))=ed m (64*k+j):=by
 have hj:=h.le
 refine vF (by omega) (fun b hb1 hb2=>?_)
 have:=h.done h0 (b - 64*k) (by omega)
 exact GH
theorem tT (m k:Nat):(ed m k).length≤k:=mR k m
end Go.Proofs.YtmddchceacmopaaGreatDoor
namespace Go.Proofs.YtmddchceacmopaaGreatDoor
open Go Go.RowKit
theorem aba:(Tryz.prog.info? 3).map (fun i=>(i.zero,i.size,i.bytes))=some (some (.int .i64 0),1,8):=by kernel_rfl
def ints (l:List Int):List Value:=l.map (.int .i64)
theorem R7 (l k:List Int):ints (l++k)=ints l++ints k:=List.map_append
theorem JG (l:List Int):(ints l).length=l.length:=by simp [ints]
structure iJ (W:World) (base:Nat) (v:Value) (l:List Int):Prop where
 own:W.ownsRow base 3 1 v l.length (ints l)
theorem iJ.nil (W:World) (base:Nat):iJ W base (.slice none 0 0) []:=⟨⟨rfl,.inl ⟨rfl,rfl⟩⟩⟩
theorem iJ.shape {W:World} {base:Nat} {v:Value} {l:List Int} (h:iJ W base v l):∃a c,v= .slice a l.length c:=(Row.bG (M:=No) h.own (fun _ _ x=>x)).slice
theorem iJ.ext {M:Nat→Prop} {W W':World} {base:Nat} {v:Value} {l:List Int} (h:iJ W base v l) (hx:Ext M W W') (hM:∀i,base≤i→¬M i):iJ W' base v l:=by
 obtain ⟨h⟩:=h
 refine ⟨?_⟩
 obtain ⟨h1,h2⟩:=h
 refine ⟨h1,?_⟩
 rcases h2 with h2|⟨g,cap,cur,h3,hb,hg,hr⟩
 ·exact .inl h2
 exact .inr ⟨g,cap,cur,h3,hb,(hx.block g (lt_of_block hg) (hM g hb)).trans hg,hr⟩
theorem iJ.app {W1 wi w5:World} {base:Nat} {v v1:Value} {l l2:List Int} {o:Obj} {z:Int} (h:iJ wi base v l) (hx:Ext No W1 wi) (hb:W1.heap.size≤base) (hown:w5.ownsRow base 3 1 v1 (l.length+1) (ints l++[.int .i64 z])) (hg:(wi.alloc o).grownBy w5 v.ownBlock) (hl:l2=l++[z]):
  ∃a c,v1= .slice a l2.length c∧Hid (iJ w5 base (.slice a l2.length c) l2)∧Hid (Ext No W1 w5):=by
 have e1:l.length+1=l2.length:=by rw [hl];simp
 have e2:ints l++[.int .i64 z]=ints l2:=by rw [hl,R7];rfl
 rw [e1,e2] at hown
 have h2:iJ w5 base v1 l2:=⟨hown⟩
 obtain ⟨a,c,rfl⟩:=h2.shape
 refine ⟨a,c,rfl,h2,(hx.alloc o).grown hg (fun k hk hlt=>?_)⟩
 have:=(World.ownsRow.lt h.own k hk).1
 omega
theorem iJ.fin {M:Nat→Prop} {W W':World} {base n c:Nat} {a:Option Addr} {l:List Int} (h:iJ W' base (.slice a n c) l) (hn:n=l.length) (hM:∀b,M b→b < W.heap.size) (hb:W.heap.size≤base):Row M W' 1 (.slice a n n) n (ints l):=by
 subst hn
 have h1:=(Row.bG (M:=M) h.own (fun b hb' hm=>by have:=hM b hm;omega)).take (Nat.le_refl _)
 rwa [Nat.mul_one,←JG l,List.take_length,JG] at h1
theorem R8 (a:Option Addr) (n c:Nat) (W:World) (hn:n≤c) (hc:c≤9223372036854775807):Calls Tryz.prog 148 #[.slice a n c] W fun e w'=>e= .returned (.slice a n n)∧W=w':=by
 go_enter Tryz.func148,Tryz.ntmps148
 go_wp2_with fail
 go_ret
 exact ⟨rfl,rfl⟩
def Vf (M:Nat→Prop) (l:List Int) (W:World) (e:Ending) (w':World):Prop:=∃a,e= .returned (.slice a l.length l.length)∧Hid (Row M w' 1 (.slice a l.length l.length) l.length (ints l))∧Ext No W w'
set_option maxRecDepth 100000 in
set_option maxHeartbeats 1000000 in
theorem zC (M:Nat→Prop) (w m:Nat) (sl:Value) (W:World) (hM:∀b,M b→b < W.heap.size) (hT:iQ W) (h:aG No W sl w m):Calls Tryz.prog 138 #[.agg #[.int .i64 (w:Int),sl]] W (Vf M (bU w m) W):=by
 have H:=aa h
 have HT:=aa hT
 have HM:=aa hM
 obtain ⟨a,c,rfl⟩:=h.slice
 have hv:=dI h.hw h.hm
 have hw:=h.hw
 have hnw:nw w≤5:=by unfold nw;omega
 obtain ⟨i0,hi0,hz0,hz1,hz2⟩:=info_parts aba
 clear h hT hM
 go_enter Tryz.func138,Tryz.ntmps138
 go_wp2_with fail
 refine (eH _ (bJ w m) _ (H.raw.aj ((Ext.refl _ _).alloc _))).mono ?_
 rintro e1 w1 ⟨rfl,hx1⟩
 rw [hv]
 have hB:=hx1.blk (ah (w:=W) rfl) ax
 have cB:=cellOf hB
 have hx:=aa (Ext.af ((Ext.refl _ _).alloc _) hx1:Ext No W w1)
 clear hx1 hB
 go_wp2_with fail
 clear cB
 have hs0:Hid (iJ w1 w1.heap.size (.slice none 0 0) (ed m (64*0))):=aa (iJ.nil _ _)
 have hx0:Hid (Ext No w1 w1):=aa (Ext.refl _ _)
 go_loopw [3,12] (fun v i wr=>∃(k:Nat) (av:Option Addr) (cv:Nat),k≤nw w∧i= .int .i64 k∧v= .slice av (ed m (64*k)).length cv∧Hid (iJ wr w1.heap.size (.slice av (ed m (64*k)).length cv) (ed m (64*k)))∧Hid (Ext No w1 wr)) (fun _ i _=>nw w - (intOf i).toNat)
 case atStart=>exact ⟨0,none,0,Nat.zero_le _,rfl,rfl,hs0,hx0⟩
 clear hs0 hx0
 obtain ⟨k,av,cv,hk,rfl,rfl,hs,TK⟩:=hrel
 rename World=>wr
 have hpos:(0:Int)≤(k:Int):=by omega
 by_cases hlt:k < nw w
 ·obtain ⟨b,off,cap,hsl,_,_,hcell⟩:=(H.aj (hx.af TK)).at (by omega)
  simp only [Value.slice.injEq] at hsl
  obtain ⟨rfl,_,rfl⟩:=hsl
  have q0:=hcell k hlt
  have HKK:Hid (Value.int .i64 ((k:Int)+1)= .int .i64 ((k+1:Nat):Int)):=aa (by rw [show ((k+1:Nat):Int)=(k:Int)+1 from by omega])
  have hlz:(k:Int) < (nw w:Int):=by omega
  have hk5:(k:Int)≤5:=by omega
  have h0:=aa (Ai.start (gN m k))
  clear hcell
  go_wp2_with fail
  clear q0
  obtain ⟨wo,rfl⟩:∃wo:World,wo=wr:=⟨_,rfl⟩
  go_loopw [3,5] (fun v x wr=>∃(j y:Nat) (av:Option Addr) (cv:Nat),x= .int .u64 (y:Int)∧v= .slice av (ed m (64*k+j)).length cv∧Hid (Ai y (dD m k) j)∧Hid (iJ wr w1.heap.size (.slice av (ed m (64*k+j)).length cv) (ed m (64*k+j)))∧Hid (Ext No w1 wr)) (fun _ x _=>(intOf x).toNat)
  case atStart=>exact ⟨0,dD m k,av,cv,rfl,rfl,h0,hs,TK⟩
  clear h0 hs TK
  obtain ⟨j,y,av,cv,rfl,rfl,hy,hs,TK⟩:=hrel
  rename World=>wi
  by_cases hy0:y=0
  ·subst hy0
   have hd:=aa (Mo hy rfl)
   go_wp2_with fail
   go_roundw
   case rel=>exact ⟨k+1,av,cv,by omega,HKK,by rw [hd],aa (by rw [hd];exact hs),TK⟩
   case measure=>simp [intOf];omega
  have hst:=aa (Mm hy hy0)
  have mH:=tT m (64*k+j)
  have hj:=hy.le
  have hn0:((y:Int) != 0)=true:=by simp;omega
  have hyl:=hy.lt
  have HY2:=aa (hy.step hy0).1
  have HDE:Hid (y&&& (y - 1) < y):=aa (hy.step hy0).2.2.2.2.1
  have adw:=(hy.step hy0).2.2.2.2.2
  have g1:IntKind.u64.wrap ((y:Int) - 1)=((y - 1:Nat):Int):=by
   rw [show ((y:Int) - 1)=((y - 1:Nat):Int) from by omega];exact qV _ (by omega)
  have g2:bits .and .u64 (y:Int) ((y - 1:Nat):Int)=((y&&& (y - 1):Nat):Int):=wN _ _ hyl (by omega)
  have g3:bits .and .u64 (y:Int) ((y:Int) - 1)=((y&&& (y - 1):Nat):Int):=by
   rw [show ((y:Int) - 1)=((y - 1:Nat):Int) from by omega];exact g2
  have hTi:=aa (HT.ext (hx.af TK))
  clear hy
  go_wp2_with (first
   |(go_at_call 147;(with_reducible refine (Ya y ?_ ?_ _ hTi.out).mono ?_);(exact hyl);(exact hy0);(rintro e w' ⟨rfl,rfl⟩))
   |(at_builtin;(refine bE _ rfl (.tmp 23) (.tmp 29) 22 rfl w1.heap.size 3 i0 _ 1 8 Tryz.underlying22 hi0 hz0 hz1 hz2 rfl (by omega) (.slice av (ed m (64*k+j)).length cv) (ed m (64*k+j)).length (ints (ed m (64*k+j))) rfl (hs.out.ext ((Ext.refl No _).alloc _) (fun _ _ x=>x)).own No (some ⟨wi.heap.size,0,none⟩) 1 1 [.int .i64 ((k:Int)*64+(Lib.ctz 64 y:Int))] rfl (Row.block (ah rfl) rfl ax (by omega)) (by simp [Value.oneCell']) (by omega) (by omega) (by simp;exact Nat.le_succ_of_le TK.out.size) ?_);(intro v1 w5 hown1 hg1 _)))
  obtain ⟨a1,c1,rfl,hs1,hx1⟩:=hs.app TK (Nat.le_refl _) hown1 hg1 (l2:=ed m (64*k+(Lib.ctz 64 y+1))) (by rw [hst];congr 2;omega)
  go_roundw
  case rel=>exact ⟨_,_,a1,c1,rfl,rfl,HY2,hs1,hx1⟩
  case measure=>simp [intOf];exact HDE
 obtain rfl:k=nw w:=by omega
 have hall:=aa (mQ (k:=64*nw w) H.hm (Lf w).1)
 have hcap:=(Row.bG (M:=No) hs.own (fun _ _ x=>x)).caps
 obtain ⟨hcap1,hcap2⟩:=hcap
 go_wp2_with ((go_at_call 148;(with_reducible refine (R8 _ _ _ _ ?_ ?_).mono ?_);(exact hcap1);(exact hcap2);(rintro e w' ⟨rfl,rfl⟩)))
 go_ret
 rw [hall] at hs ⊢
 exact ⟨av,rfl,hs.fin rfl HM hx.size,hx.af TK⟩
end Go.Proofs.YtmddchceacmopaaGreatDoor

namespace Go.Proofs.YtmddchceacmopaaGreatDoor
open Go Go.RowKit
def acI (w m:Nat) (W:World) (e:Ending) (w':World):Prop:=
 ∃g,e= .returned (.tuple #[.agg #[.int .i64 (w:Int),.slice (some ⟨g,0,none⟩) (nw w) (nw w)],.int .i64 0])∧Hid (fU w' g w m)∧W.heap.size≤g∧Ext No W w'
set_option maxHeartbeats 400000 in
theorem Mq (w:Nat) (W:World) (hw:w≤256):Calls Tryz.prog 122 #[.int .i64 (w:Int)] W (acI w 0 W):=by
 have hmk:=rq (nw w) (by unfold nw;omega)
 have hr:kH w=true:=decide_eq_true ⟨by omega,by omega⟩
 go_enter Tryz.func122,Tryz.ntmps122
 go_wp2_with fail
 refine (lU _ _).mono ?_
 rintro e1 w1 ⟨rfl,rfl⟩
 rw [hr]
 go_wp2_with fail
 refine (pz w hw _).mono ?_
 rintro e2 w2 ⟨rfl,rfl⟩
 go_wp2_with fail
 have hC:((W.alloc (.cells #[.int .i64 (w:Int),.slice (some ⟨W.heap.size+1,0,none⟩) (nw w) (nw w)] 44)).alloc (.cells (oN (nw w)) 108)).heap[W.heap.size]? =some (.cells #[.int .i64 (w:Int),.slice (some ⟨W.heap.size+1,0,none⟩) (nw w) (nw w)] 44 (0,0)):=ay (ah rfl)
 have cC:=cellOf hC
 refine aW rfl ?_
 simp [results,Tryz.results122,go_sem,cC]
 exact F3
def SK (l:List Int):Nat:=l.foldl (fun m b=>m|||2 ^ b.toNat) 0
theorem R9 (l:List Int) (b:Nat):SK (l++[(b:Int)])=SK l|||2 ^ b:=by simp [SK]
theorem U9 (b:Nat):SK [(b:Int)]=2 ^ b:=by simp [SK]
theorem Yb {w:Nat} (l:List Int) (h:∀x∈l,0≤x∧x < (w:Int)):SK l < 2 ^ w:=by
 have key:∀(l:List Int) (m:Nat),m < 2 ^ w→(∀x∈l,0≤x∧x < (w:Int))→l.foldl (fun m b=>m|||2 ^ b.toNat) m < 2 ^ w:=by
  intro l
  induction l with
  |nil=>intro m hm _;exact hm
  |cons x l ih=>
   intro m hm h
   rw [List.foldl_cons]
   have:=h x (List.mem_cons_self ..)
   exact ih _ (fZ hm (eZ (by omega))) (fun y hy=>h y (List.mem_cons_of_mem _ hy))
 exact key l 0 (Nat.two_pow_pos w) h
structure ZR (W wr:World) (w m g D:Nat):Prop where
 ext:Ext No W wr
 bV:wr.heap[W.heap.size]? =some (.cells #[.int .i64 0,.slice none 0 0] 44 (0,0))
 dB:wr.heap[D]? =some (.cells #[.int .i64 (w:Int),.slice (some ⟨g,0,none⟩) (nw w) (nw w)] 44 (0,0))
 own:gY wr (W.heap.size+1) (.slice (some ⟨g,0,none⟩) (nw w) (nw w)) (aY w m)
 hg:W.heap.size+1≤g
 hD:g < D
theorem ZR.put {W wr w':World} {w m m' g D:Nat} (h:ZR W wr w m g D) (ho:gY w' (W.heap.size+1) (.slice (some ⟨g,0,none⟩) (nw w) (nw w)) (aY w m')) (hx:Ext (At g) wr w'):ZR W w' w m' g D:=by
 have h1:=h.hg
 have h2:=h.hD
 exact ⟨h.ext.aJ hx (fun i hi e=>by unfold At at e;omega),hx.blk h.bV (by unfold At;omega),hx.blk h.dB (by unfold At;omega),ho,h1,h2⟩
set_option maxRecDepth 100000 in
set_option maxHeartbeats 1000000 in
theorem X0 (M:Nat→Prop) (w:Nat) (l:List Int) (sl:Value) (W:World) (hM:∀b,M b→b < W.heap.size) (hw:w≤256) (hl:Row No W 1 sl l.length (ints l)) (hin:∀x∈l,0≤x∧x < (w:Int)):
  Calls Tryz.prog 131 #[.int .i64 (w:Int),sl] W (iq M w (SK l) W):=by
 have HL:=aa hl
 have HM:=aa hM
 have Zm:=aa hin
 obtain ⟨a,c,rfl⟩:=hl.slice
 have hbig:=hl.2.1
 clear hl hM hin
 go_enter Tryz.func131,Tryz.ntmps131
 go_wp2_with fail
 refine (Mq w _ hw).mono ?_
 rintro e1 w1 ⟨g,rfl,hb,hg,hx1⟩
 rw [jJ] at hg
 have hxa:Ext No W w1:=Ext.af ((Ext.refl _ _).alloc _) hx1
 have hbC:=hx1.blk (ah (w:=W) rfl) ax
 have hgl:=lt_of_block (show w1.heap[g]? =_ from hb)
 have hm0:=aa (show ZR W (w1.alloc (.cells #[.int .i64 (w:Int),.slice (some ⟨g,0,none⟩) (nw w) (nw w)] 44)) w 0 g w1.heap.size from
  ⟨hxa.alloc _,ay hbC,ah rfl,(hb.own hw hg).ext ((Ext.refl No _).alloc _) (fun _ _ x=>x),hg,hgl⟩)
 clear hb hg hx1 hxa hbC hgl
 go_wp2_with fail
 generalize World.alloc w1 _=W1 at*
 generalize w1.heap.size=D at*
 go_loopw [17] (fun i wr=>∃k:Nat,k≤l.length∧i= .int .i64 k∧Hid (ZR W wr w (SK (l.take k)) g D)) (fun i _=>l.length - (intOf i).toNat)
 case atStart=>exact ⟨0,Nat.zero_le _,rfl,hm0⟩
 clear hm0
 obtain ⟨k,hk,rfl,hm⟩:=hrel
 rename World=>wr
 have hpos:(0:Int)≤(k:Int):=by omega
 by_cases hlt:k < l.length
 ·obtain ⟨b,off,cap,hsl,_,_,hcell⟩:=(HL.aj hm.ext).shape (by omega)
  simp only [Value.slice.injEq] at hsl
  obtain ⟨rfl,_,rfl⟩:=hsl
  have q0:=hcell k _ (show (ints l)[k]? =some (.int .i64 l[k]) from by simp [ints,hlt])
  obtain ⟨x,hx,hxw⟩:∃x:Nat,l[k]=(x:Int)∧x < w:=⟨l[k].toNat,by have:=Zm.out _ (List.getElem_mem hlt);omega,by have:=Zm.out _ (List.getElem_mem hlt);omega⟩
  rw [hx] at q0
  have HS:Hid (SK (l.take (k+1))=SK (l.take k)|||2 ^ x):=aa (by rw [List.take_succ_eq_append_getElem hlt,hx,R9])
  have HKK:Hid (Value.int .i64 ((k:Int)+1)= .int .i64 ((k+1:Nat):Int)):=aa (by rw [show ((k+1:Nat):Int)=(k:Int)+1 from by omega])
  have hx0:((x:Int) < 0)=False:=by simp
  have hxz:(x:Int) < (w:Int):=by omega
  have cD:=cellOf hm.dB
  have hlz:(k:Int) < (l.length:Int):=by omega
  clear hcell hx
  go_wp2_with fail
  refine (Nh (W.heap.size+1) g (nw w) w _ x hxw hw _ hm.own (Nat.lt_trans hm.hD (lt_of_block hm.dB)) hm.hg).mono ?_
  rintro e5 w5 ⟨rfl,YB,hx5,_⟩
  have mH:=aa (hm.put YB hx5)
  clear hm YB hx5 cD q0
  go_wp2_with fail
  go_roundw
  case rel=>exact ⟨k+1,by omega,HKK,aa (by rw [HS];exact mH)⟩
  case measure=>simp [intOf];omega
 obtain rfl:k=l.length:=by omega
 have cD:=cellOf hm.dB
 have cC:=cellOf hm.bV
 have fC:=aH hm.bV
 have acJ:=Yb l Zm
 have hne:¬W.heap.size=D:=fun e=>by have:=hm.hg;have:=hm.hD;omega
 go_wp2_with fail
 refine aW rfl ?_
 simp [results,Tryz.results131,go_sem,cC]
 rw [List.take_length] at hm
 refine ⟨_,_,rfl,hm.own.fin (W0:=W) (Nat.le_succ _) HM ?_ hw acJ,gG hm.ext (Nat.le_refl _)⟩
 exact ((Ext.refl (Lo (W.heap.size+1)) _).setCell (p:=⟨W.heap.size,0,none⟩) (fun _=>Nat.lt_succ_self _) _).setCell (p:=⟨W.heap.size,1,none⟩) (fun _=>Nat.lt_succ_self _) _
end Go.Proofs.YtmddchceacmopaaGreatDoor
namespace Go.Proofs.YtmddchceacmopaaGreatDoor
open Go Go.RowKit
def pR (p:bC×Value):List Value:=[.int .i64 p.1.width,p.2]
def jy (L:List (bC×Value)):List Value:=L.flatMap pR
theorem Po (L K:List (bC×Value)):jy (L++K)=jy L++jy K:=by simp [jy]
theorem tY (L:List (bC×Value)) (i j:Nat) (hi:i < L.length) (hj:j < 2):(jy L)[i*2+j]? =(pR L[i])[j]? :=by
 induction L generalizing i with
 |nil=>simp at hi
 |cons p L ih=>
  have e:jy (p::L)=pR p++jy L:=rfl
  have e2:(pR p).length=2:=rfl
  rw [e]
  cases i with
  |zero=>rw [List.getElem?_append_left (by omega)];simp
  |succ i=>
   rw [List.getElem?_append_right (by omega),e2,show (i+1)*2+j - 2=i*2+j by omega,ih i (by simpa using hi)];rfl
theorem Pp (L:List (bC×Value)) (i:Nat) (p:bC×Value) (hi:i < L.length):((jy L).set (i*2) (.int .i64 p.1.width)).set (i*2+1) p.2=jy (L.set i p):=by
 induction L generalizing i with
 |nil=>simp at hi
 |cons q L ih=>
  have e:∀(r:bC×Value) K,jy (r::K)= .int .i64 r.1.width::r.2::jy K:=fun _ _=>rfl
  cases i with
  |zero=>rw [List.set_cons_zero,e,e];rfl
  |succ i=>
   rw [List.set_cons_succ,e,e,←ih i (by simpa using hi),show (i+1)*2=i*2+2 by omega];rfl
structure kY (M:Nat→Prop) (W:World) (so:Value) (L:List (bC×Value)):Prop where
 row:Row M W 2 so L.length (jy L)
 ok:∀p∈L,aU M W p.2 p.1.words
section
variable {M M':Nat→Prop} {W W':World} {so:Value} {L:List (bC×Value)}
theorem kY.ext (h:kY M W so L) (hx:Ext M' W W') (hm:∀i,i < W.heap.size→M' i→M i):kY M W' so L:=⟨h.row.ext hx hm,fun p hp=>(h.ok p hp).ext hx hm⟩
theorem kY.aj (h:kY M W so L) (hx:Ext No W W'):kY M W' so L:=h.ext hx (fun _ _ x=>x.elim)
theorem kY.mono (h:kY M W so L) (hm:∀i,i < W.heap.size→M' i→M i):kY M' W so L:=⟨h.row.mono hm,fun p hp=>(h.ok p hp).mono hm⟩
theorem kY.no (h:kY M W so L):kY No W so L:=h.mono (fun _ _ x=>x.elim)
theorem kY.slice (h:kY M W so L):∃a c,so= .slice a L.length c:=h.row.slice
theorem kY.at (h:kY M W so L) {i:Nat} (hi:i < L.length):∃b off cap,so= .slice (some ⟨b,off,none⟩) L.length cap∧b < W.heap.size∧¬M b∧
  ∀j (hj:j < L.length),W.cell? ⟨b,off+j*2,none⟩=some (.int .i64 L[j].1.width)∧W.cell? ⟨b,off+j*2+1,none⟩=some L[j].2:=by
 obtain ⟨b,off,cap,h1,h2,h3,h4⟩:=h.row.shape (by omega)
 refine ⟨b,off,cap,h1,h2,h3,fun j hj=>⟨?_,?_⟩⟩
 ·have:=h4 (j*2+0) _ (by rw [tY L j 0 hj (by omega)];rfl)
  simpa using this
 have:=h4 (j*2+1) _ (by rw [tY L j 1 hj (by omega)];rfl)
 rw [Nat.add_assoc];exact this
end
structure fM (M:Nat→Prop) (W:World) (so:Value) (w:Nat) (ms:List Nat):Prop where
 ex:∃L,kY M W so L∧L.map Prod.fst=ms.map (bJ w)
 hw:w≤256
 hm:∀m∈ms,m < 2 ^ w
section
variable {M M':Nat→Prop} {W W':World} {so:Value} {w:Nat} {ms:List Nat}
theorem fM.ext (h:fM M W so w ms) (hx:Ext M' W W') (hm:∀i,i < W.heap.size→M' i→M i):fM M W' so w ms:=by
 obtain ⟨⟨L,h1,h2⟩,h3,h4⟩:=h;exact ⟨⟨L,h1.ext hx hm,h2⟩,h3,h4⟩
theorem fM.aj (h:fM M W so w ms) (hx:Ext No W W'):fM M W' so w ms:=h.ext hx (fun _ _ x=>x.elim)
theorem fM.mono (h:fM M W so w ms) (hm:∀i,i < W.heap.size→M' i→M i):fM M' W so w ms:=by
 obtain ⟨⟨L,h1,h2⟩,h3,h4⟩:=h;exact ⟨⟨L,h1.mono hm,h2⟩,h3,h4⟩
theorem fM.no (h:fM M W so w ms):fM No W so w ms:=h.mono (fun _ _ x=>x.elim)
theorem fM.slice (h:fM M W so w ms):∃a c,so= .slice a ms.length c:=by
 obtain ⟨⟨L,h1,h2⟩,_,_⟩:=h
 have:=congrArg List.length h2
 simp only [List.length_map] at this
 rw [←this];exact h1.slice
theorem fM.at (h:fM M W so w ms) {i:Nat} (hi:i < ms.length):∃b off cap a c,so= .slice (some ⟨b,off,none⟩) ms.length cap∧b < W.heap.size∧¬M b∧
  W.cell? ⟨b,off+i*2,none⟩=some (.int .i64 (w:Int))∧W.cell? ⟨b,off+i*2+1,none⟩=some (.slice a (nw w) c)∧Hid (aG M W (.slice a (nw w) c) w ms[i]):=by
 obtain ⟨⟨L,h1,h2⟩,h3,h4⟩:=h
 have hl:=congrArg List.length h2
 simp only [List.length_map] at hl
 obtain ⟨b,off,cap,e1,e2,e3,e4⟩:=h1.at (i:=i) (by omega)
 have e5:L[i].1=bJ w ms[i]:=by
  have:=congrArg (fun l=>l[i]?) h2
  simpa [hi,show i < L.length by omega] using this
 have hok:=h1.ok L[i] (List.getElem_mem _)
 rw [e5] at hok
 have hs:aG M W L[i].2 w ms[i]:=⟨hok,h3,h4 _ (List.getElem_mem _)⟩
 obtain ⟨a,c,e6⟩:=hs.slice
 obtain ⟨q0,q1⟩:=e4 i (by omega)
 rw [e5] at q0
 rw [e6] at q1 hs
 exact ⟨b,off,cap,a,c,by rw [e1,hl],e2,e3,q0,q1,hs⟩
end
end Go.Proofs.YtmddchceacmopaaGreatDoor
namespace Go.Proofs.YtmddchceacmopaaGreatDoor
open Go Go.RowKit
def nX (C:Nat) (w:World):Prop:=∃u0 u1,w.heap[C]? =some (.cells #[u0,u1] 44 (0,0))
theorem nX.ext {C:Nat} {w w':World} (h:nX C w) (hx:Ext No w w'):nX C w':=by obtain ⟨u0,u1,h⟩:=h;exact ⟨u0,u1,hx.blk h ax⟩
theorem nX.set {C:Nat} {w:World} {x0 x1:Value} (h:nX C w):nX C ((w.setCell ⟨C,0,none⟩ x0).setCell ⟨C,1,none⟩ x1):=by obtain ⟨u0,u1,h⟩:=h;exact ⟨x0,x1,(az (j:=1) (az (j:=0) h)).trans rfl⟩
theorem nX.acK {C:Nat} {W w:World} {x0 x1:Value} (hx:Ext No W w) (hC:W.heap.size≤C):Ext No W ((w.setCell ⟨C,0,none⟩ x0).setCell ⟨C,1,none⟩ x1):=gG hx hC
theorem nX.drew {C:Nat} {w:World} (h:nX C w):nX C w.drew:=h
theorem nX.cells {C:Nat} {w:World} (h:nX C w):∃u0 u1,w.cell? ⟨C,0,none⟩=some u0∧w.cell? ⟨C,1,none⟩=some u1∧w.frozen? ⟨C,0,none⟩=false∧w.frozen? ⟨C,1,none⟩=false:=by
 obtain ⟨u0,u1,h⟩:=h;exact ⟨u0,u1,cellOf h 0,cellOf h 1,aH h 0,aH h 1⟩
set_option maxRecDepth 100000 in
set_option maxHeartbeats 1000000 in
theorem Bz (M:Nat→Prop) (w m:Nat) (sl:Value) (W:World) (hM:∀b,M b→b < W.heap.size) (h:aG No W sl w m):
  Calls Tryz.prog 137 #[.agg #[.int .i64 (w:Int),sl]] W (jA M w m W):=by
 have H:=aa h
 have HM:=aa hM
 have hw:=h.hw
 obtain ⟨a,c,rfl⟩:=h.slice
 clear h hM
 go_enter Tryz.func137,Tryz.ntmps137
 go_wp2_with fail
 have hx0:Ext No W ((W.alloc (.cells #[.int .i64 (w:Int),.slice a (nw w) c] 44)).alloc (.cells #[.int .i64 0,.slice none 0 0] 44)):=((Ext.refl _ _).alloc _).alloc _
 have hA:((W.alloc (.cells #[.int .i64 (w:Int),.slice a (nw w) c] 44)).alloc (.cells #[.int .i64 0,.slice none 0 0] 44)).heap[W.heap.size]? =some (.cells #[.int .i64 (w:Int),.slice a (nw w) c] 44 (0,0)):=ay (ah rfl)
 have hC:((W.alloc (.cells #[.int .i64 (w:Int),.slice a (nw w) c] 44)).alloc (.cells #[.int .i64 0,.slice none 0 0] 44)).heap[W.heap.size+1]? =some (.cells #[.int .i64 0,.slice none 0 0] 44 (0,0)):=ah (by simp)
 have hW2:W.heap.size+1 < ((W.alloc (.cells #[.int .i64 (w:Int),.slice a (nw w) c] 44)).alloc (.cells #[.int .i64 0,.slice none 0 0] 44)).heap.size:=by simp
 generalize World.alloc (World.alloc W _) _=W2 at*
 have l0:W2.cell? ⟨W.heap.size,0,none⟩=some (.int .i64 (w:Int)):=cellOf hA 0
 have l1:W2.cell? ⟨W.heap.size,1,none⟩=some (.slice a (nw w) c):=cellOf hA 1
 have l3:nX (W.heap.size+1) W2:=⟨_,_,hC⟩
 have ku:W.heap.size < W.heap.size+1:=Nat.lt_succ_self _
 have hlt1:W.heap.size≤W.heap.size+1:=Nat.le_succ _
 clear hA hC
 go_region_held3 (fun w'=>w'.cell? ⟨W.heap.size,0,none⟩=some (.int .i64 (w:Int))∧w'.cell? ⟨W.heap.size,1,none⟩=some (.slice a (nw w) c)∧Ext No W w'∧nX (W.heap.size+1) w')
  ((go_split_ands;refine ⟨?_,?_,?_,?_⟩;(first|((with_reducible refine gZ ?_ ?_);(first|(with_reducible assumption)|(with_reducible exact bf aF (by with_reducible assumption)));(exact Nat.ne_of_lt ku))|(with_reducible assumption)|(with_reducible exact keepD (by with_reducible assumption))|(with_reducible exact aO (by with_reducible assumption))|(with_reducible exact keepD (aO (by with_reducible assumption)))|(with_reducible exact aO (keepD (by with_reducible assumption)))|(with_reducible exact bf aF (by with_reducible assumption))|(with_reducible exact aO (bf aF (by with_reducible assumption))));(first|((with_reducible refine gZ ?_ ?_);(first|(with_reducible assumption)|(with_reducible exact bf aF (by with_reducible assumption)));(exact Nat.ne_of_lt ku))|(with_reducible assumption)|(with_reducible exact keepD (by with_reducible assumption))|(with_reducible exact aO (by with_reducible assumption))|(with_reducible exact keepD (aO (by with_reducible assumption)))|(with_reducible exact aO (keepD (by with_reducible assumption)))|(with_reducible exact bf aF (by with_reducible assumption))|(with_reducible exact aO (bf aF (by with_reducible assumption))));(first|((with_reducible refine nX.acK ?_ hlt1);(first|(with_reducible assumption)|(with_reducible exact Ext.af (by with_reducible assumption) aF)))|(first|((with_reducible refine gG ?_ ?_);(first|(with_reducible assumption)|(with_reducible exact Ext.af (by with_reducible assumption) aF));(exact Nat.le_refl _))|(with_reducible assumption)|(with_reducible exact Ext.drew (by with_reducible assumption))|(with_reducible exact Ext.alloc (by with_reducible assumption) _)|(with_reducible exact Ext.drew (Ext.alloc (by with_reducible assumption) _))|(with_reducible exact Ext.af (by with_reducible assumption) aF)|(with_reducible exact Ext.alloc (Ext.af (by with_reducible assumption) aF) _)));(first|(with_reducible assumption)|(with_reducible exact nX.drew (by with_reducible assumption))|(with_reducible exact nX.ext (by with_reducible assumption) aF)|(with_reducible exact nX.set (by with_reducible assumption))|(with_reducible exact nX.set (nX.ext (by with_reducible assumption) aF)))))
  (first|((go_at_call 94);(try go_split_ands);(with_reducible refine (Gp _ (aY w m) _ ?_ ?_).mono ?_);(exact H.words.aj (by with_reducible assumption));(rw [aX];unfold nw;omega);(rintro e3 w3 ⟨v3,rfl,hown,aF⟩);(have HOWN:=aa hown);(obtain ⟨a3,c3,hsl⟩:=hown.slice);(rw [aX] at hsl);(subst hsl);(have hx3:=aa (Ext.af (show Ext No W _ from by with_reducible assumption) aF));(have hb3:=nX.ext (show nX (W.heap.size+1) _ from by with_reducible assumption) aF);(obtain ⟨u0,u1,cC0,cC1,fC0,fC1⟩:=hb3.cells);(clear hown)))
 all_goals
  go_wp2_with fail
  obtain ⟨v0,v1,hh⟩:=hb3
  have hC4:((w3.setCell ⟨W.heap.size+1,0,none⟩ (.int .i64 (w:Int))).setCell ⟨W.heap.size+1,1,none⟩ (.slice a3 (nw w) c3)).heap[W.heap.size+1]? =some (.cells #[.int .i64 (w:Int),.slice a3 (nw w) c3] 44 (0,0)):=(az (j:=1) (az (j:=0) hh)).trans rfl
  have cC4:=cellOf hC4
  clear hC4 hh cC0 cC1 fC0 fC1
  refine aW rfl ?_
  simp [results,Tryz.results137,go_sem,cC4]
  refine ⟨_,_,rfl,HOWN.fin (W0:=W) (Nat.le_trans (Nat.le_succ _) (Nat.le_of_lt hW2)) HM ?_ hw H.hm,gG hx3 (Nat.le_succ _)⟩
  exact ((Ext.refl (Lo _) w3).setCell (p:=⟨W.heap.size+1,0,none⟩) (fun _=>hW2) _).setCell (p:=⟨W.heap.size+1,1,none⟩) (fun _=>hW2) _
end Go.Proofs.YtmddchceacmopaaGreatDoor
namespace Go.Proofs.YtmddchceacmopaaGreatDoor
open Go Go.RowKit
def bY (n:Nat) (T:TypeId) (C:Nat) (w:World):Prop:=∃cs:Array Value,cs.size=n∧w.heap[C]? =some (.cells cs T (0,0))
section
variable {n T C:Nat} {w w':World}
theorem bY.ext (h:bY n T C w) (hx:Ext No w w'):bY n T C w':=by obtain ⟨cs,h1,h⟩:=h;exact ⟨cs,h1,hx.blk h ax⟩
theorem bY.drew (h:bY n T C w):bY n T C w.drew:=h
theorem bY.alloc (h:bY n T C w) (o:Obj):bY n T C (w.alloc o):=h.ext ((Ext.refl _ _).alloc _)
theorem bY.set (h:bY n T C w) (j:Nat) (x:Value):bY n T C (w.setCell ⟨C,j,none⟩ x):=by obtain ⟨cs,h1,h⟩:=h;exact ⟨_,by simp [h1],az h⟩
theorem bY.free (h:bY n T C w):∀j,w.frozen? ⟨C,j,none⟩=false:=by obtain ⟨cs,h1,h⟩:=h;exact aH h
theorem bY.lt (h:bY n T C w):C < w.heap.size:=by obtain ⟨cs,h1,h⟩:=h;exact lt_of_block h
theorem Ext.setAt {C:Nat} {a w:World} (h:Ext (At C) a w) (j:Nat) (x:Value):Ext (At C) a (w.setCell ⟨C,j,none⟩ x):=h.setCell (p:=⟨C,j,none⟩) (fun _=>rfl) _
theorem pF (w:World) (C:Nat) (a b c d e:Value):Ext (At C) w (((((w.setCell ⟨C,0,none⟩ a).setCell ⟨C,1,none⟩ b).setCell ⟨C,2,none⟩ c).setCell ⟨C,3,none⟩ d).setCell ⟨C,4,none⟩ e):=(((((Ext.refl (At C) w).setAt 0 a).setAt 1 b).setAt 2 c).setAt 3 d).setAt 4 e
theorem abd {cs:Array Value} (h:cs.size=5):∃a b c d e,cs=#[a,b,c,d,e]:=by
 obtain ⟨l⟩:=cs
 match l,h with
 |[a,b,c,d,e],_=>exact ⟨a,b,c,d,e,rfl⟩
theorem bY.qy (h:bY 5 T C w) (a b c d e:Value):(((((w.setCell ⟨C,0,none⟩ a).setCell ⟨C,1,none⟩ b).setCell ⟨C,2,none⟩ c).setCell ⟨C,3,none⟩ d).setCell ⟨C,4,none⟩ e).heap[C]? =some (.cells #[a,b,c,d,e] T (0,0)):=by
 obtain ⟨cs,h1,h⟩:=h
 obtain ⟨_,_,_,_,_,rfl⟩:=abd h1
 exact (az (j:=4) (az (j:=3) (az (j:=2) (az (j:=1) (az (j:=0) h))))).trans rfl
end
def Vg (M:Nat→Prop) (t:cK) (W:World) (e:Ending) (w':World):Prop:=
 ∃ag cg ak ck ac cc,e= .returned (.tuple #[.agg #[.int .i64 (t.w:Int),.slice ag (nw t.w) cg,.int .i64 (t.w:Int),.slice ak (nw t.w) ck,.slice ac t.copies.length cc],.int .i64 0])∧
  Hid (dF M w' (.slice ag (nw t.w) cg) (.slice ak (nw t.w) ck) (.slice ac t.copies.length cc) t)∧Ext No W w'
def acL (e0:Int) (W:World) (e:Ending) (w':World):Prop:=e= .returned (.tuple #[.agg #[.int .i64 0,.slice none 0 0,.int .i64 0,.slice none 0 0,.slice none 0 0],.int .i64 e0])∧Ext No W w'
end Go.Proofs.YtmddchceacmopaaGreatDoor
namespace Go.Proofs.YtmddchceacmopaaGreatDoor
open Go Go.RowKit
theorem yZ:(Tryz.prog.info? 44).map (fun i=>(i.zero,i.size,i.bytes))=some (some (.agg #[.int .i64 0,.slice none 0 0]),2,32):=by kernel_rfl
theorem dG {M:Nat→Prop} {wx wy:World} {B:Nat} {e:TypeId} {size n:Nat} {v:Value} {xs:List Value} (h:wx.ownsRow B e size v n xs) (hx:Ext M wx wy) (hM:∀i,B≤i→¬M i):wy.ownsRow B e size v n xs:=by
 obtain ⟨h1,h2⟩:=h
 exact yH
structure dm (A:Nat→Prop) (w:World) (base:Nat) (v:Value) (L:List (bC×Value)):Prop where
 own:w.ownsRow base 44 2 v L.length (jy L)
 ok:∀p∈L,aU (fun b=>A b∨v.ownBlock=some b) w p.2 p.1.words
section
variable {A M:Nat→Prop} {w w':World} {base g cap:Nat} {v v':Value} {L:List (bC×Value)} {p:bC×Value}
theorem dm.nil (A:Nat→Prop) (w:World) (base:Nat):dm A w base (.slice none 0 0) []:=⟨⟨rfl,.inl ⟨rfl,rfl⟩⟩,fun _ h=>by cases h⟩
theorem dm.ext (h:dm A w base v L) (hx:Ext M w w') (h1:∀i,base≤i→¬M i) (h2:∀i,M i→A i):dm A w' base v L:=
 ⟨dG h.own hx h1,fun p hp=>(h.ok p hp).ext hx (fun i _ e=> .inl (h2 i e))⟩
theorem dm.aj (h:dm A w base v L) (hx:Ext No w w'):dm A w' base v L:=h.ext hx (fun _ _ x=>x) (fun _ x=>x.elim)
theorem dm.mono {A':Nat→Prop} (h:dm A w base v L) (hm:∀i,i < w.heap.size→A' i→A i):dm A' w base v L:=⟨h.own,fun p hp=>(h.ok p hp).mono (fun i hi e=>by
 rcases e with e|e
 ·exact .inl (hm i hi e)
 exact .inr e)⟩
theorem dm.slice (h:dm A w base v L):∃a c,v= .slice a L.length c:=(Row.bG (M:=No) h.own (fun _ _ x=>x)).slice
theorem dm.lt (h:dm A w base v L) (k:Nat) (hk:v.ownBlock=some k):base≤k∧k < w.heap.size:=World.ownsRow.lt h.own k hk
theorem dm.app {o:Obj} (h:dm A w base v L) (hp:aU (fun b=>A b∨v.ownBlock=some b) w p.2 p.1.words) (hown:w'.ownsRow base 44 2 v' (L.length+1) (jy L++pR p))
  (hg:(w.alloc o).grownBy w' v.ownBlock) (hv:v'.ownBlock=v.ownBlock∨v'.ownBlock=some (w.alloc o).heap.size):dm A w' base v' (L++[p])∧Ext (fun k=>v.ownBlock=some k) w w':=by
 have hE:Ext (fun k=>v.ownBlock=some k) w w':=((Ext.refl _ w).alloc o).grown hg (fun k hk _=>hk)
 refine ⟨⟨?_,fun q hq=>?_⟩,hE⟩
 ·rw [List.length_append,Po];exact hown
 have hq2:aU (fun b=>A b∨v.ownBlock=some b) w q.2 q.1.words:=by
  rcases List.mem_append.1 hq with hq|hq
  ·exact h.ok q hq
  rw [List.mem_singleton.1 hq];exact hp
 have hq3:aU (fun b=>(A b∨v.ownBlock=some b)∨w.heap.size≤b) w q.2 q.1.words:=hq2.mono (fun i hi e=>by
  rcases e with e|e
  ·exact e
  omega)
 refine (hq3.ext hE (fun i _ e=> .inl (.inr e))).mono (fun i _ e=>?_)
 exact F4
theorem dm.put (h:dm A w base (.slice (some ⟨g,0,none⟩) L.length cap) L) {i:Nat} (hi:i < L.length) (hp:aU (fun b=>A b∨b=g) w p.2 p.1.words):
  dm A ((w.setCell ⟨g,i*2,none⟩ (.int .i64 p.1.width)).setCell ⟨g,i*2+1,none⟩ p.2) base (.slice (some ⟨g,0,none⟩) L.length cap) (L.set i p):=by
 have hE:Ext (At g) w ((w.setCell ⟨g,i*2,none⟩ (.int .i64 p.1.width)).setCell ⟨g,i*2+1,none⟩ p.2):=((Ext.refl (At g) w).setAt _ _).setAt _ _
 refine ⟨?_,fun q hq=>?_⟩
 ·have h1:=(World.ownsRow.stored (w:=w) h.own (i*2) (.int .i64 p.1.width)).1
  have h2:=(World.ownsRow.stored (w:=w.setCell ⟨g,i*2,none⟩ (.int .i64 p.1.width)) h1 (i*2+1) p.2).1
  rw [Pp L i p hi] at h2
  rw [List.length_set]
  exact h2
 have hq2:aU (fun b=>A b∨b=g) w q.2 q.1.words:=by
  rcases List.mem_or_eq_of_mem_set hq with hq|rfl
  ·exact (h.ok q hq).mono (fun i _ e=>by
    rcases e with e|rfl
    ·exact .inl e
    exact .inr rfl)
  exact hp
 exact (hq2.ext hE (fun i _ e=> .inr e)).mono (fun i _ e=>by
  rcases e with e|e
  ·exact .inl e
  simp only [Value.ownBlock,Option.some.injEq] at e;exact .inr e.symm)
theorem dm.Wj {a:Option Addr} {n c k:Nat} (h:dm A w base (.slice a n c) L) (hk:k < L.length):∃g,a=some ⟨g,0,none⟩∧base≤g∧g < w.heap.size∧n=L.length∧
  (∀j (hj:j < L.length),w.cell? ⟨g,j*2,none⟩=some (.int .i64 L[j].1.width)∧w.cell? ⟨g,j*2+1,none⟩=some L[j].2)∧(∀j,w.frozen? ⟨g,j,none⟩=false):=by
 obtain ⟨h1,h2⟩:=h.own
 have hrow:=Row.bG (M:=No) h.own (fun _ _ x=>x)
 obtain ⟨a',c',e⟩:=hrow.slice
 simp only [Value.slice.injEq] at e
 obtain ⟨_,en,_⟩:=e
 rcases h2 with ⟨h2,h3⟩|⟨g,cap,cur,hv,hb,hg,hr⟩
 ·omega
 simp only [Value.slice.injEq] at hv
 obtain ⟨rfl,_,_⟩:=hv
 refine ⟨g,rfl,hb,lt_of_block hg,en,fun j hj=>?_,aH hg⟩
 obtain ⟨b,off,cap',e1,_,_,e4⟩:=hrow.shape (by omega)
 simp only [Value.slice.injEq,Option.some.injEq,Addr.mk.injEq] at e1
 obtain ⟨⟨rfl,rfl,_⟩,_,_⟩:=e1
 refine ⟨?_,?_⟩
 ·have:=e4 (j*2+0) _ (by rw [tY L j 0 hj (by omega)];rfl)
  simpa using this
 have:=e4 (j*2+1) _ (by rw [tY L j 1 hj (by omega)];rfl)
 simpa using this
theorem dm.sets (h:dm A w base v L) (hb:∀b,base≤b→¬M b) (hA:∀b,M b→A b):kY M w v L:=
 ⟨Row.bG h.own hb,fun p hp=>(h.ok p hp).mono (fun i _ e=> .inl (hA i e))⟩
end
theorem aZ {M:Nat→Prop} {wx wy:World} {B:Nat} {e:TypeId} {size n:Nat} {v:Value} {xs:List Value} (h:wx.ownsRow B e size v n xs) (hx:Ext M wx wy) (hM:∀k,v.ownBlock=some k→¬M k):wy.ownsRow B e size v n xs:=by
 obtain ⟨h1,h2⟩:=h
 refine ⟨h1,?_⟩
 rcases h2 with h2|⟨g,cap,cur,hv,hb,hg,hr⟩
 ·exact .inl h2
 exact .inr ⟨g,cap,cur,hv,hb,(hx.block g (lt_of_block hg) (hM g (by rw [hv];rfl))).trans hg,hr⟩
theorem dY {w:World} {B B':Nat} {e:TypeId} {size n:Nat} {v:Value} {xs:List Value} (h:w.ownsRow B e size v n xs) (hB:B'≤B):w.ownsRow B' e size v n xs:=by
 obtain ⟨h1,h2⟩:=h
 refine ⟨h1,?_⟩
 rcases h2 with h2|⟨g,cap,cur,hv,hb,hr⟩
 ·exact .inl h2
 exact .inr ⟨g,cap,cur,hv,Nat.le_trans hB hb,hr⟩
structure gq (w gen:Nat) (rs:List Nat) (sg so:Value) (M:Nat→Prop) (W:World):Prop where
 gen:aG (fun b=>M b∨so.ownBlock=some b) W sg w gen
 ex:∃L,dm M W 0 so L∧L.map Prod.fst=rs.map (bJ w)
 adA:∀b,so.ownBlock=some b→¬M b
 hm:∀m∈rs,m < 2 ^ w
section
variable {w gen:Nat} {rs:List Nat} {sg so:Value} {M M':Nat→Prop} {W W':World}
theorem gq.ext (h:gq w gen rs sg so M W) (hx:Ext M' W W') (hm:∀i,i < W.heap.size→M' i→M i):gq w gen rs sg so M W':=by
 obtain ⟨L,h1,h2⟩:=h.ex
 refine ⟨h.gen.ext hx (fun i hi e=> .inl (hm i hi e)),⟨L,⟨aZ h1.own hx (fun k hk e=>h.adA k hk (hm k (h1.lt k hk).2 e)),fun p hp=>(h1.ok p hp).ext hx (fun i hi e=> .inl (hm i hi e))⟩,h2⟩,h.adA,h.hm⟩
theorem gq.mono (h:gq w gen rs sg so M W) (hm:∀i,i < W.heap.size→M' i→M i):gq w gen rs sg so M' W:=by
 obtain ⟨L,h1,h2⟩:=h.ex
 refine ⟨h.gen.mono (fun i hi e=>by
  rcases e with e|e
  ·exact .inl (hm i hi e)
  exact .inr e),⟨L,h1.mono hm,h2⟩,fun b hb e=>h.adA b hb (hm b (h1.lt b hb).2 e),h.hm⟩
theorem gq.aj (h:gq w gen rs sg so M W) (hx:Ext No W W'):gq w gen rs sg so M W':=h.ext hx (fun _ _ x=>x.elim)
theorem gq.set (h:gq w gen rs sg so M W):aG M W sg w gen:=h.gen.mono (fun _ _ e=> .inl e)
theorem gq.sets (h:gq w gen rs sg so M W):fM M W so w rs:=by
 obtain ⟨L,h1,h2⟩:=h.ex
 have hrow:Row No W 2 so L.length (jy L):=Row.bG h1.own (fun _ _ x=>x)
 refine ⟨⟨L,⟨?_,fun p hp=>(h1.ok p hp).mono (fun i _ e=> .inl e)⟩,h2⟩,h.gen.hw,h.hm⟩
 obtain ⟨e1,e2,a,cap,e3,e4,e5⟩:=hrow
 refine ⟨e1,e2,a,cap,e3,e4,?_⟩
 rcases e5 with e5|⟨b,off,e6,e7,_,e8⟩
 ·exact .inl e5
 refine .inr ⟨b,off,e6,e7,?_,e8⟩
 refine h.adA b ?_
 obtain ⟨o1,o2⟩:=h1.own
 rcases o2 with ⟨o2,_⟩|⟨g,cap',cur,o3,_⟩
 ·rw [o2,e6] at e3;simp at e3
 rw [o3]
 rw [o3,e6] at e3
 simp only [Value.slice.injEq,Option.some.injEq,Addr.mk.injEq] at e3
 obtain ⟨⟨rfl,_⟩,_⟩:=e3
 rfl
theorem gq.kv (h:gq w gen rs sg so M W):∀b,so.ownBlock=some b→b < W.heap.size:=fun b hb=>by
 obtain ⟨L,h1,_⟩:=h.ex
 exact (h1.lt b hb).2
theorem gq.len (h:gq w gen rs sg so M W):∃a c,so= .slice a rs.length c:=h.sets.slice
theorem gq.at {a:Option Addr} {n c:Nat} (h:gq w gen rs sg (.slice a n c) M W) {i:Nat} (hi:i < rs.length):∃g ae ce,a=some ⟨g,0,none⟩∧n=rs.length∧g < W.heap.size∧(∀j,W.frozen? ⟨g,j,none⟩=false)∧
  W.cell? ⟨g,i*2,none⟩=some (.int .i64 (w:Int))∧W.cell? ⟨g,i*2+1,none⟩=some (.slice ae (nw w) ce)∧Hid (aG (fun b=>M b∨b=g) W (.slice ae (nw w) ce) w rs[i]):=by
 obtain ⟨L,h1,h2⟩:=h.ex
 have hl:=congrArg List.length h2
 simp only [List.length_map] at hl
 have GX:i < L.length:=by omega
 obtain ⟨g,rfl,_,hg,hn,hc,hf⟩:=h1.Wj GX
 have e5:L[i].1=bJ w rs[i]:=by
  have:=congrArg (fun l=>l[i]?) h2
  simpa [hi,GX] using this
 have hok:=h1.ok L[i] (List.getElem_mem _)
 rw [e5] at hok
 have hs:aG _ W L[i].2 w rs[i]:=⟨hok,h.gen.hw,h.hm _ (List.getElem_mem _)⟩
 obtain ⟨ae,ce,e6⟩:=hs.slice
 obtain ⟨q0,q1⟩:=hc i GX
 rw [e5] at q0
 rw [e6] at q1 hs
 exact ⟨g,ae,ce,rfl,by omega,hg,hf,q0,q1,aa (hs.mono (fun b _ e=>by
  rcases e with e|rfl
  ·exact .inl e
  exact .inr rfl))⟩
theorem gq.put {g c i m n:Nat} {sl:Value} (h:gq w gen rs sg (.slice (some ⟨g,0,none⟩) n c) M W) (hn:n=rs.length) (hi:i < rs.length) (hp:aG (fun b=>M b∨b=g) W sl w m):
  gq w gen (rs.set i m) sg (.slice (some ⟨g,0,none⟩) n c) M ((W.setCell ⟨g,i*2,none⟩ (.int .i64 (w:Int))).setCell ⟨g,i*2+1,none⟩ sl):=by
 subst hn
 obtain ⟨L,h1,h2⟩:=h.ex
 have hl:=congrArg List.length h2
 simp only [List.length_map] at hl
 have GX:i < L.length:=by omega
 have hE:Ext (At g) W ((W.setCell ⟨g,i*2,none⟩ (.int .i64 (w:Int))).setCell ⟨g,i*2+1,none⟩ sl):=((Ext.refl (At g) W).setAt _ _).setAt _ _
 have h1':dm M W 0 (.slice (some ⟨g,0,none⟩) L.length c) L:=by rw [hl];exact h1
 refine ⟨h.gen.ext hE (fun i _ e=> .inr (by cases e;rfl)),⟨L.set i (bJ w m,sl),?_,?_⟩,h.adA,fun x hx=>?_⟩
 ·have:=h1'.put (p:=(bJ w m,sl)) GX hp.words
  rw [hl] at this
  exact this
 ·rw [List.map_set,h2,←List.map_set]
 rcases List.mem_or_eq_of_mem_set hx with hx|rfl
 ·exact h.hm x hx
 exact hp.hm
end
end Go.Proofs.YtmddchceacmopaaGreatDoor
namespace Go.Proofs.YtmddchceacmopaaGreatDoor
open Go Go.RowKit
def kQ (t:cK) (a:Nat):Nat→Nat
 |0=>if gz t.w t.kill a then 0 else 2 ^ a
 |k+1=>match t.copies[k]? with
  |none=>kQ t a k
  |some c=>if c.1=(a:Int) then kQ t a k|||2 ^ c.2.toNat else kQ t a k
theorem Gt {t:cK} {a k:Nat} (hk:k < t.copies.length):kQ t a (k+1)=if t.copies[k].1=(a:Int) then kQ t a k|||2 ^ t.copies[k].2.toNat else kQ t a k:=by
 rw [kQ,List.getElem?_eq_getElem hk]
theorem Aa {t:cK} {a:Nat} (ho:eO t) (ha:a < t.w):∀k,kQ t a k < 2 ^ t.w:=by
 intro k
 induction k with
 |zero=>
  unfold kQ;split
  ·exact Nat.two_pow_pos _
  exact eZ ha
 |succ k ih=>
  unfold kQ
  exact FZ
def aI (t:cK) (n k:Nat):List Nat:=(List.range n).map fun a=>kQ t a k
theorem gU (t:cK) (n k:Nat):(aI t n k).length=n:=by simp [aI]
theorem BA (t:cK) (n k:Nat):aI t (n+1) k=aI t n k++[kQ t n k]:=by simp [aI,List.range_succ]
theorem tV (t:cK) (n k i:Nat) (h:i < (aI t n k).length):(aI t n k)[i]=kQ t i k:=by simp [aI]
theorem Mr {t:cK} {k f g:Nat} (hk:k < t.copies.length) (hf:t.copies[k].1=(f:Int)) (hg:t.copies[k].2=(g:Int)) (hfw:f < t.w):aI t t.w (k+1)=(aI t t.w k).set f (kQ t f k|||2 ^ g):=by
 refine List.ext_getElem (by simp [aI]) (fun i h1 h2=>?_)
 rw [tV,Gt hk,List.getElem_set,hf,hg]
 by_cases e:f=i
 ·subst e;simp
 rw [if_neg (by omega),if_neg e,tV]
def wP (M:Nat→Prop) (w gen:Nat) (rs:List Nat) (W:World) (e:Ending) (w':World):Prop:=
 ∃ag cg ao co,e= .returned (.agg #[.int .i64 (w:Int),.slice ag (nw w) cg,.slice ao rs.length co])∧Hid (gq w gen rs (.slice ag (nw w) cg) (.slice ao rs.length co) M w')∧Ext No W w'
structure Cm (M:Nat→Prop) (W wr:World) (t:cK) (X:Nat) (sg sk sc s1 v:Value) (L:List (bC×Value)):Prop where
 ext:Ext No W wr
 bW:wr.heap[W.heap.size]? =some (.cells #[.int .i64 (t.w:Int),sg,.int .i64 (t.w:Int),sk,sc] 47 (0,0))
 bV:wr.heap[W.heap.size+1]? =some (.cells #[.int .i64 0,.slice none 0 0,.slice none 0 0] 131 (0,0))
 dU:wr.heap[X]? =some (.cells #[.int .i64 (t.w:Int),s1,v] 131 (0,0))
 gen:aG (fun b=>M b∨b=W.heap.size+1∨b=X∨X < b) wr s1 t.w t.gen
 s:dm (fun b=>M b∨b=W.heap.size+1∨b=X) wr (X+1) v L
 big:W.heap.size+1 < X
section
variable {M M':Nat→Prop} {W wr w':World} {t:cK} {X:Nat} {sg sk sc s1 v v':Value} {L:List (bC×Value)} {p:bC×Value}
theorem Cm.aC (h:Cm M W wr t X sg sk sc s1 v L) (hx:Ext No wr w'):Cm M W w' t X sg sk sc s1 v L:=
 ⟨h.ext.af hx,hx.blk h.bW ax,hx.blk h.bV ax,hx.blk h.dU ax,h.gen.aj hx,h.s.aj hx,h.big⟩
theorem Cm.hM (hM:∀b,M b→b < wr.heap.size) (h:Cm M W wr t X sg sk sc s1 v L):∀b,((M b∨b=W.heap.size+1∨b=X)∨v.ownBlock=some b)→b < wr.heap.size:=fun b hb=>by
 have h1:=lt_of_block h.dU
 have h2:=h.big
 rcases hb with (hb|rfl|rfl)|hb
 ·exact hM b hb
 ·omega
 ·exact h1
 exact (h.s.lt b hb).2
theorem Cm.app {o:Obj} (h:Cm M W wr t X sg sk sc s1 v L) (hp:aU (fun b=>(M b∨b=W.heap.size+1∨b=X)∨v.ownBlock=some b) wr p.2 p.1.words) (hown:w'.ownsRow (X+1) 44 2 v' (L.length+1) (jy L++pR p))
  (hg:(wr.alloc o).grownBy w' v.ownBlock) (hv:v'.ownBlock=v.ownBlock∨v'.ownBlock=some (wr.alloc o).heap.size):
  Cm M W (w'.setCell ⟨X,2,none⟩ v') t X sg sk sc s1 v' (L++[p])∧w'.heap[X]? =some (.cells #[.int .i64 (t.w:Int),s1,v] 131 (0,0)):=by
 exact FC
theorem Cm.mono (h:Cm M W wr t X sg sk sc s1 v L) (hm:∀i,i < wr.heap.size→M' i→M i):Cm M' W wr t X sg sk sc s1 v L:=
 ⟨h.ext,h.bW,h.bV,h.dU,h.gen.mono (fun i hi e=>by
  rcases e with e|e
  ·exact .inl (hm i hi e)
  ·exact .inr e),h.s.mono (fun i hi e=>by
  rcases e with e|e
  ·exact .inl (hm i hi e)
  exact .inr e),h.big⟩
theorem Cm.box {S:Nat} {u0 u1:Value} (h:Cm M W wr t X sg sk sc s1 v L) (hS:X < S) (hv:¬v.ownBlock=some S) (ZH:M S):Cm M W ((wr.setCell ⟨S,0,none⟩ u0).setCell ⟨S,1,none⟩ u1) t X sg sk sc s1 v L:=by
 have hb:=h.big
 have hE:Ext (At S) wr ((wr.setCell ⟨S,0,none⟩ u0).setCell ⟨S,1,none⟩ u1):=((Ext.refl (At S) wr).setAt _ _).setAt _ _
 refine ⟨h.ext.aJ hE (fun i hi e=>by unfold At at e;omega),hE.blk h.bW (by unfold At;omega),hE.blk h.bV (by unfold At;omega),hE.blk h.dU (by unfold At;omega),h.gen.ext hE (fun i _ e=>by cases e;exact .inl ZH),⟨?_,fun p hp=>(h.s.ok p hp).ext hE (fun i _ e=>by cases e;exact .inl (.inl ZH))⟩,hb⟩
 obtain ⟨h1,h2⟩:=h.s.own
 exact FJ
theorem Cm.put {g cap i:Nat} (h:Cm M W wr t X sg sk sc s1 (.slice (some ⟨g,0,none⟩) L.length cap) L) (hi:i < L.length) (hp:aU (fun b=>(M b∨b=W.heap.size+1∨b=X)∨b=g) wr p.2 p.1.words):
  Cm M W ((wr.setCell ⟨g,i*2,none⟩ (.int .i64 p.1.width)).setCell ⟨g,i*2+1,none⟩ p.2) t X sg sk sc s1 (.slice (some ⟨g,0,none⟩) L.length cap) (L.set i p):=by
 have hb:=h.big
 have hg:=(h.s.lt g rfl).1
 have hE:Ext (At g) wr ((wr.setCell ⟨g,i*2,none⟩ (.int .i64 p.1.width)).setCell ⟨g,i*2+1,none⟩ p.2):=((Ext.refl (At g) wr).setAt _ _).setAt _ _
 refine ⟨h.ext.aJ hE (fun i hi e=>by unfold At at e;omega),hE.blk h.bW (by unfold At;omega),hE.blk h.bV (by unfold At;omega),hE.blk h.dU (by unfold At;omega),h.gen.ext hE (fun i _ e=> .inr (.inr (.inr (by unfold At at e;omega)))),h.s.put hi hp,hb⟩
end

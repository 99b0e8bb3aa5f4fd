
import Derived.Test.YtmddchceacmopaaGreatDoorProg
import Derived.Deep.QuietTactic
import Derived.BigQuiet
import Derived.WalkSpells
import Derived.IntWalk
import Derived.Test.YtmddchceacmopaaGreatDoorTrB
import Derived.Deep.Onto
set_option linter.unusedVariables false
set_option linter.unusedSimpArgs false
namespace Go.Proofs.YtmddchceacmopaaGreatDoor
open Go Go.RowKit
theorem Gz {p:Prop} (h:p:=by
 go_enter Tryz.func9,Tryz.ntmps9
 go_wp2_with fail
 go_quiet (fail)
 go_wp2
 go_ret
 exact ⟨0,rfl,.inr rfl,HT.ext ((Ext.refl _ _).drewN _),(Ext.refl _ _).drewN _,rfl⟩):p:=h
theorem GD {p:Prop} (h:p:=by
 go_wp2_with fail
 go_roundw
 case rel=>exact ⟨a+1,l,_,by omega,HKA,hl.row,hm⟩
 case measure=>simp [intOf];omega):p:=h
theorem GG {p:Prop} (h:p:=by
 go_enter Tryz.func41,Tryz.ntmps41
 go_wp2_with fail
 go_ret
 exact tL):p:=h
def Qv (v n:Int):Int:=wrap64 ((IntKind.u64.wrap v).tmod n)
theorem Nj (v n:Int) (h:1≤n) (h2:n≤9223372036854775807):0≤Qv v n∧Qv v n < n:=by
 have h0:0≤IntKind.u64.wrap v:=by simp only [IntKind.wrap,IntKind.bits,IntKind.signed];simp;omega
 have h3:0≤(IntKind.u64.wrap v).tmod n:=Int.tmod_nonneg _ h0
 have h4:(IntKind.u64.wrap v).tmod n < n:=Int.tmod_lt_of_pos _ (by omega)
 unfold Qv
 rw [IntWalk.wrap64_in _ (by omega)]
 exact ⟨h3,h4⟩
theorem Vb (v n:Int) (hn:1≤n) (hn2:n≤9223372036854775807) (w:World):Calls Tryz.prog 30 #[.int .i64 v,.int .i64 n] w fun e w'=>e= .returned (.int .i64 (Qv v n))∧w=w':=by
 have hb:=Nj v n hn hn2
 go_enter Tryz.func30,Tryz.ntmps30
 exact ko
def bB (w:World) (tb:Nat):Prop:=∃(sl:Value) (n i:Nat) (zs:List Int),w.heap[tb]? =some (.cells #[sl,.int .i64 i] 61 (0,0))∧i≤n∧n=zs.length∧Row (From tb) w 1 sl n (zs.map (.int .i64))
theorem bB.ext {w w':World} {tb:Nat} (h:bB w tb) (hx:Ext No w w'):bB w' tb:=by
 obtain ⟨sl,n,i,zs,h1,h2,h3,h4⟩:=h
 exact ⟨sl,n,i,zs,(hx.block tb (lt_of_block h1) (fun x=>x.elim)).trans h1,h2,h3,h4.aj hx⟩
theorem bB.xz {M:Nat→Prop} {w w':World} {tb:Nat} (h:bB w tb) (hx:Ext M w w') (hb:∀i,i < w.heap.size→M i→False):bB w' tb:=h.ext (hx.mono hb)
theorem bB.gM {M:Nat→Prop} {w w':World} {tb:Nat} (h:bB w tb) (hx:Ext M w w') (hb:∀i,i≤tb→¬M i):bB w' tb:=by
 obtain ⟨sl,n,i,zs,h1,h2,h3,h4⟩:=h
 refine ⟨sl,n,i,zs,(hx.block tb (lt_of_block h1) (hb tb (Nat.le_refl _))).trans h1,h2,h3,h4.ext hx (fun i _ x=>?_)⟩
 rcases Nat.lt_or_ge i tb with h|h
 ·exact absurd x (hb i (by omega))
 exact h
theorem bB.lt {w:World} {tb:Nat} (h:bB w tb):tb < w.heap.size:=by
 obtain ⟨sl,n,i,zs,h1,_⟩:=h;exact lt_of_block h1
theorem Pk {k:IntKind} {a:Int} (h:0≤a):Ending.returned (.int k a)= .returned (.int k (a.toNat:Nat)):=by rw [Int.toNat_of_nonneg h]
def R3 (tb:Nat) (n:Int) (w:World) (e:Ending) (w':World):Prop:=
 ∃r:Nat,e= .returned (.int .i64 r)∧((r:Int) < n∨r=0)∧bB w' tb∧Ext (At tb) w w'∧w'.heap.size=w.heap.size
theorem X5 {w:World} {b T:Nat} {v0 v1:Value} (h:w.heap[b]? =some (.cells #[v0,v1] T (0,0))):
  w.cell? ⟨b,0,none⟩=some v0∧w.cell? ⟨b,1,none⟩=some v1∧w.frozen? ⟨b,0,none⟩=false∧w.frozen? ⟨b,1,none⟩=false:=by
 simp [World.cell?,World.frozen?,h]
theorem set2 {w:World} {b T:Nat} {v0 v1 u:Value} (h:w.heap[b]? =some (.cells #[v0,v1] T (0,0))):
  (w.setCell ⟨b,1,none⟩ u).heap[b]? =some (.cells #[v0,u] T (0,0)):=by
 have hlt:=lt_of_block h
 have h':w.heap[b]= .cells #[v0,v1] T (0,0):=by simpa [Array.getElem?_eq_getElem hlt] using h
 exact Fb
theorem Cy {w:World} {a:Addr} {u:Value} (v:Value) (h:w.cell? a=some u):(w.setCell a v).cell? a=some v:=World.cell?_setCell_same (h:=h) ..
theorem bB.step {w:World} {tb n i T:Nat} {sl:Value} {zs:List Int} (hT:T= 61) (h1:w.heap[tb]? =some (.cells #[sl,.int .i64 i] T (0,0))) (h2:i < n) (h3:n=zs.length) (h4:Row (From tb) w 1 sl n (zs.map (.int .i64))):
  bB (w.setCell ⟨tb,1,none⟩ (.int .i64 (i+1))) tb:=by
 subst hT
 exact ⟨sl,n,i+1,zs,by rw [set2 h1];rfl,by omega,h3,h4.ext ((Ext.refl (At tb) w).setCell (p:=⟨tb,1,none⟩) (fun _=>rfl) _) (fun i _ x=>by cases x;exact Nat.le_refl _)⟩
set_option maxHeartbeats 400000 in
theorem R4 (tb:Nat) (n:Int) (hn2:n≤9223372036854775807) (w:World) (ht:bB w tb):
  Calls Tryz.prog 9 #[.pointer (some ⟨tb,0,none⟩),.int .i64 n] w (R3 tb n w):=by
 obtain ⟨sl,len,i,zs,h1,h2,h3,h4⟩:=ht
 have HT:=aa (show bB w tb from ⟨sl,len,i,zs,h1,h2,h3,h4⟩)
 have H4:=aa h4
 have H1:=aa h1
 have H3:=aa h3
 obtain ⟨c0,c1,f0,f1⟩:=X5 h1
 obtain ⟨a,cap,rfl⟩:=h4.slice
 have hlen:=h4.2.1
 clear h4 h1 h3
 by_cases hn:n≤1
 ·have hd:decide (n≤1)=true:=by simpa using hn
  exact Gz
 have hd:decide (n≤1)=false:=by simpa using hn
 by_cases hi:i < len
 ·obtain ⟨b,off,cap',hsl,hb1,hb2,hcell⟩:=H4.shape (by omega)
  simp only [Value.slice.injEq] at hsl
  obtain ⟨rfl,_,rfl⟩:=hsl
  have hz:=H3.out
  have hi':i < zs.length:=by omega
  have hel:=hcell i (.int .i64 zs[i]) (by simp [hi'])
  have hbt:b≠tb:=fun h=>hb2 (by subst h;exact Nat.le_refl _)
  have hlt:(i:Int) < (len:Int):=by omega
  have hne:((b:Nat)=tb)=False:=by simp [hbt]
  have HC:=aa hcell
  have HZ:=aa hz
  clear hcell hz hne
  have g0:∀(q:Nat) v,((w.drewN q).setCell ⟨tb,1,none⟩ v).cell? ⟨b,off+i,none⟩=some (.int .i64 zs[i]):=fun q v=>by
   rw [World.cell?_setCell_other (h:=by simp)];exact hel
  have g1:∀(q:Nat) v,((w.drewN q).setCell ⟨tb,1,none⟩ v).cell? ⟨tb,1,none⟩=some v:=fun q v=>Cy (w:=w.drewN q) v c1
  have g2:∀(q:Nat) v,((w.drewN q).setCell ⟨tb,1,none⟩ v).cell? ⟨tb,0,none⟩=some (.slice (some ⟨b,off,none⟩) len cap):=fun q v=>by
   rw [World.cell?_setCell_other (h:=by simp)];exact c0
  have hm:=Nj zs[i] n (by omega) hn2
  go_enter Tryz.func9,Tryz.ntmps9
  go_wp2_with fail
  go_quiet (fail)
  go_wp2_with fail
  go_quiet ((go_at_call 30;exact Calls.quiet_of_same ((Vb _ _ (by omega) hn2 _).mono fun e w' ⟨he,hw⟩=>⟨he,hw.symm⟩)))
  go_wp2
  go_ret
  refine ⟨(Qv zs[i] n).toNat,Pk hm.1,.inl (by omega),?_,?_,by simp⟩
  ·exact (bB.step rfl H1 hi HZ H4).ext (((Ext.refl _ _).drewN _).drewN _)
  exact (((Ext.refl (At tb) w).drewN _).setCell (p:=⟨tb,1,none⟩) (fun _=>rfl) _).drewN _
 have hge:(len:Int)≤(i:Int):=by omega
 exact Gz
def X6 (tb:Nat) (n:Int) (w:World) (e:Ending) (w':World):Prop:=
 ∃r:Nat,e= .returned (.int .i64 r)∧(r:Int) < n∧bB w' tb∧Ext (At tb) w w'∧w'.heap.size=w.heap.size
theorem jB (tb:Nat) (n:Int) (h1:1≤n) (hn2:n≤9223372036854775807) (w:World) (ht:bB w tb):
  Calls Tryz.prog 9 #[.pointer (some ⟨tb,0,none⟩),.int .i64 n] w (X6 tb n w):=
 (R4 tb n hn2 w ht).mono fun _ _ ⟨r,he,hr,h⟩=>⟨r,he,by omega,h⟩
def Ints (M:Nat→Prop) (w:World) (k:IntKind) (sl:Value) (zs:List Int):Prop:=Row M w 1 sl zs.length (zs.map (.int k))
def Vd (w:World) (e:Ending) (w':World):Prop:=
 e= .returned (.pointer (some ⟨w.heap.size,0,none⟩))∧bB w' w.heap.size∧Ext No w w'∧w'.heap.size=w.heap.size+1
theorem UG (sl:Value) (zs:List Int) (w:World) (h:Ints No w .i64 sl zs):Calls Tryz.prog 6 #[sl] w (Vd w):=by
 have H:=aa h
 obtain ⟨a,cap,rfl⟩:=h.slice
 clear h
 go_enter Tryz.func6,Tryz.ntmps6
 go_wp2
 go_ret
 refine ⟨rfl,⟨_,_,0,zs,heap_alloc_new w _,Nat.zero_le _,rfl,?_⟩,(Ext.refl _ _).alloc _,by simp⟩
 exact H.newAt ((Ext.refl _ _).alloc _) _ (fun i hi x=>absurd x (by unfold From;omega))
end Go.Proofs.YtmddchceacmopaaGreatDoor

namespace Go.Proofs.YtmddchceacmopaaGreatDoor
open Go Go.RowKit
def Pm (tb:Nat) (W:World) (e:Ending) (w':World):Prop:=∃w:Nat,w≤8∧e= .returned (.int .i64 (w:Int))∧bB w' tb∧Ext (At tb) W w'
theorem X7 (r:Nat) (h:r < 7):∃w:Nat,w≤8∧(#[Value.int .i64 3,.int .i64 1,.int .i64 4,.int .i64 2,.int .i64 6,.int .i64 0,.int .i64 8])[r]? =some (.int .i64 (w:Int)):=by
 match r,h with
 |0,_=>exact ⟨3,by decide,rfl⟩
 |1,_=>exact ⟨1,by decide,rfl⟩
 |2,_=>exact ⟨4,by decide,rfl⟩
 |3,_=>exact ⟨2,by decide,rfl⟩
 |4,_=>exact ⟨6,by decide,rfl⟩
 |5,_=>exact ⟨0,by decide,rfl⟩
 |6,_=>exact ⟨8,by decide,rfl⟩
set_option maxHeartbeats 1000000 in
theorem OM (tb:Nat) (W:World) (ht:bB W tb):Calls Tryz.prog 54 #[.pointer (some ⟨tb,0,none⟩)] W (Pm tb W):=by
 have HT:=aa ht
 have hlt:=ht.lt
 clear ht
 go_enter Tryz.func54,Tryz.ntmps54
 go_wp2_with fail
 have hx0:Ext (At tb) W (W.alloc (.cells #[.int .i64 3,.int .i64 1,.int .i64 4,.int .i64 2,.int .i64 6,.int .i64 0,.int .i64 8] 3)):=(Ext.refl _ _).alloc _
 refine (jB tb 7 (by decide) (by decide) _ (HT.ext ((Ext.refl _ _).alloc _))).mono ?_
 rintro e1 w1 ⟨r,rfl,hr,ht1,hx1,_⟩
 have hB:=hx1.blk (ah (w:=W) rfl) (by unfold At;omega)
 obtain ⟨v,hv,hv2⟩:=X7 r (by omega)
 have cB:=(cellOf hB r).trans hv2
 have HT1:=aa ht1
 have hxa:=aa (hx0.trans hx1)
 have HV:=aa hv
 clear hv hv2 hB hx0 hx1 ht1
 go_wp2_with fail
 go_ret
 exact ⟨v,HV,rfl,HT1,hxa⟩
def X8 (tb w:Nat) (W:World) (e:Ending) (w':World):Prop:=
 ∃m g,m < 2 ^ w∧e= .returned (.agg #[.int .i64 (w:Int),.slice (some ⟨g,0,none⟩) (nw w) (nw w)])∧Hid (fU w' g w m)∧W.heap.size≤g∧bB w' tb∧Ext (At tb) W w'
theorem mV.tape {E:Nat→Prop} {W wx wy:World} {C D w m g tb:Nat} {u0 u1:Value} (h:mV E W C D w m g wx) (ht:bB wy tb) (hb:tb < W.heap.size):bB ((wy.setCell ⟨D,0,none⟩ u0).setCell ⟨D,1,none⟩ u1) tb:=
 bB.gM ht (jV (W:=wy) (Ext.refl _ _) D) (fun i hi e=>by have:=h.Uh;unfold At at e;omega)
set_option maxHeartbeats 1000000 in
theorem Rz (tb w:Nat) (W:World) (hw:w≤256) (ht:bB W tb):Calls Tryz.prog 56 #[.pointer (some ⟨tb,0,none⟩),.int .i64 (w:Int)] W (X8 tb w W):=by
 have HT:=aa ht
 have IU:=ht.lt
 clear ht
 go_enter Tryz.func56,Tryz.ntmps56
 go_wp2_with fail
 have hxa:Ext No W (W.alloc (.cells #[.int .i64 0,.slice none 0 0] 44)):=(Ext.refl _ _).alloc _
 have hC:(W.alloc (.cells #[.int .i64 0,.slice none 0 0] 44)).heap[W.heap.size]? =some (.cells #[.int .i64 0,.slice none 0 0] 44 (0,0)):=ah rfl
 refine (fK w _ hw).mono ?_
 rintro e1 w1 ⟨g,rfl,hb1,hg,hx1⟩
 have zO:=hx1.blk hC ax
 have hs1:=lt_of_block zO
 have hs2:=lt_of_block hb1.out
 have hx2:=(hxa.af hx1).alloc (.cells #[.int .i64 (w:Int),.slice (some ⟨g,0,none⟩) (nw w) (nw w)] 44)
 have hm1:=aa (show mV (At tb) W W.heap.size w1.heap.size w 0 g (w1.alloc (.cells #[.int .i64 (w:Int),.slice (some ⟨g,0,none⟩) (nw w) (nw w)] 44)) from
  ⟨hx2.mono (fun _ _ x=>x.elim),ay zO,ah rfl,ay hb1,Nat.le_refl _,by omega,by simp at hg;omega,by omega,by simp at hg;omega,by omega,fun _ x=>by cases x;exact IU⟩)
 have HT1:=aa (HT.ext hx2)
 clear hxa hC hx1 hb1 hg zO hs1 hs2 hx2
 go_wp2_with fail
 generalize World.alloc w1 _=W1 at*
 generalize w1.heap.size=D at*
 go_loopw [6] (fun i wr=>∃(k m g:Nat),k≤w∧m < 2 ^ w∧i= .int .i64 k∧Hid (mV (At tb) W W.heap.size D w m g wr)∧Hid (bB wr tb)) (fun i _=>w - (intOf i).toNat)
 case atStart=>exact ⟨0,0,g,Nat.zero_le _,Nat.two_pow_pos w,rfl,hm1,HT1⟩
 clear hm1 HT1 HT
 obtain ⟨k,m,g,hk,hmw,rfl,hm,ht⟩:=hrel
 rename World=>wr
 have oF:=aa hmw
 clear hmw
 by_cases hlt:k < w
 ·have hpos:(0:Int)≤(k:Int):=by omega
  have HKK:Hid (Value.int .i64 ((k:Int)+1)= .int .i64 ((k+1:Nat):Int)):=aa (by rw [show ((k+1:Nat):Int)=(k:Int)+1 from by omega])
  go_wp2_with fail
  refine (jB tb 3 (by decide) (by decide) _ ht).mono ?_
  rintro e2 w2 ⟨r,rfl,hr,ht2,hx2,_⟩
  have hm2:=aa (hm.step hx2)
  have HT2:=aa ht2
  clear hm hx2 ht ht2
  by_cases h1:r=1
  ·subst h1
   have cD:=cellOf hm2.dB
   go_wp2_with fail
   refine (iW w m k _ _ hlt (hm2.set (M:=No) hw oF.out (fun _ x=>x.elim))).mono ?_
   rintro e3 w3 ⟨g3,rfl,hb3,hg3,hx3⟩
   have gX:=aa (hm2.put hb3 hx3 hg3)
   have HT3:=aa (hm2.tape (u0:= .int .i64 (w:Int)) (u1:= .slice (some ⟨g3,0,none⟩) (nw w) (nw w)) (HT2.ext hx3) IU)
   have fD:=aH (hm2.aC hx3).dB
   have Tf:=cellOf (hm2.aC hx3).dB
   clear hm2 HT2 hb3 hg3 hx3 cD
   go_wp2_with fail
   go_roundw
   case rel=>exact ⟨k+1,m|||2 ^ k,g3,by omega,fZ oF (eZ hlt),HKK,gX,HT3⟩
   case measure=>simp [intOf];omega
  have h1':¬(r:Int)=1:=by omega
  go_wp2_with fail
  go_roundw
  case rel=>exact ⟨k+1,m,g,by omega,oF,HKK,hm2,HT2⟩
  case measure=>simp [intOf];omega
 obtain rfl:k=w:=by omega
 have cD:=cellOf hm.dB
 have cC:=cellOf hm.bV
 have fC:=aH hm.bV
 go_wp2_with fail
 refine aW rfl ?_
 simp [results,Tryz.results56,go_sem,cC]
 have hx5:=jV (W:=wr) (w1:=wr) (Ext.refl _ _) (u0:= .int .i64 (k:Int)) (u1:= .slice (some ⟨g,0,none⟩) (nw k) (nw k)) W.heap.size
 have hlow:=hm.low
 have hne:=hm.neC
 exact ⟨m,_,oF,rfl,hx5.blk hm.blk (by unfold At;omega),hlow,bB.gM ht hx5 (fun i hi e=>by unfold At at e;omega),gG hm.ext (Nat.le_refl _)⟩
end Go.Proofs.YtmddchceacmopaaGreatDoor
namespace Go.Proofs.YtmddchceacmopaaGreatDoor
open Go Go.RowKit
structure KZ (w a b:Nat) (l:List (Int×Int)):Prop where
 len:l.length≤12
 inr:∀i (h:i < l.length),mh w l[i].1=true∧mh w l[i].2=true
 sorted:∀i (h:i+1 < l.length),iM l[i] l[i+1] < 0
 low:∀i (h:i < l.length),l[i].1 < a∨l[i].1=a∧l[i].2 < b
theorem KZ.nil (w:Nat):KZ w 0 0 []:=⟨by simp,fun i h=>by simp at h,fun i h=>by simp at h,fun i h=>by simp at h⟩
theorem KZ.row {w a b:Nat} {l:List (Int×Int)} (h:KZ w a b l):KZ w (a+1) 0 l:=⟨h.len,h.inr,h.sorted,fun i hi=>by have:=h.low i hi;omega⟩
theorem KZ.col {w a b:Nat} {l:List (Int×Int)} (h:KZ w a b l):KZ w a (b+1) l:=⟨h.len,h.inr,h.sorted,fun i hi=>by have:=h.low i hi;omega⟩
theorem zI {p q:Int×Int} (h:p.1 < q.1∨p.1=q.1∧p.2 < q.2):iM p q < 0:=by
 unfold iM
 rcases h with h|⟨h1,h2⟩
 ·have:qK p.1 q.1= -1:=by unfold qK;rw [if_pos h]
  rw [this];unfold ZJ;simp
 have e1:qK p.1 q.1=0:=by unfold qK;rw [if_neg (by omega),if_neg (by omega)]
 have e2:qK p.2 q.2= -1:=by unfold qK;rw [if_pos h2]
 rw [e1,e2];decide
theorem KZ.app {w a b:Nat} {l:List (Int×Int)} (h:KZ w a b l) (ha:a < w) (hb:b < w) (hl:l.length < 12):KZ w a (b+1) (l++[((a:Int),(b:Int))]):=by
 refine ⟨by simp;omega,fun i hi=>?_,fun i hi=>?_,fun i hi=>?_⟩
 ·by_cases hil:i < l.length
  ·rw [List.getElem_append_left hil];exact h.inr i hil
  rw [List.getElem_append_right (by omega)]
  simp only [List.getElem_singleton,mh,decide_eq_true_eq]
  omega
 ·simp only [List.length_append,List.length_singleton] at hi
  by_cases hil:i+1 < l.length
  ·rw [List.getElem_append_left (by omega),List.getElem_append_left hil];exact h.sorted i hil
  rw [List.getElem_append_left (by omega),List.getElem_append_right (by omega)]
  simp only [List.getElem_singleton]
  exact zI (h.low i (by omega))
 by_cases hil:i < l.length
 ·rw [List.getElem_append_left hil];have:=h.low i hil;omega
 rw [List.getElem_append_right (by omega)]
 simp only [List.getElem_singleton]
 exact .inr ⟨trivial,by omega⟩
structure oq (tb:Nat) (W:World) (C D w m1 g1 m2 g2:Nat) (sc:Value) (wx:World):Prop where
 ext:Ext (At tb) W wx
 tape:bB wx tb
 bV:wx.heap[C]? =some (.cells #[.int .i64 0,.slice none 0 0,.int .i64 0,.slice none 0 0,.slice none 0 0] 47 (0,0))
 dB:wx.heap[D]? =some (.cells #[.int .i64 (w:Int),.slice (some ⟨g1,0,none⟩) (nw w) (nw w),.int .i64 (w:Int),.slice (some ⟨g2,0,none⟩) (nw w) (nw w),sc] 47 (0,0))
 b1:fU wx g1 w m1
 b2:fU wx g2 w m2
 ltb:tb < W.heap.size
 Qu:W.heap.size≤C
 Uh:W.heap.size≤D
 acD:W.heap.size≤g1
 acE:W.heap.size≤g2
 XA:C≠D
 acF:C≠g1
 acG:C≠g2
 adu:D≠g1
 adv:D≠g2
section
variable {tb:Nat} {W wx wy:World} {C D w m1 g1 m2 g2 g3 m3 B:Nat} {sc VP:Value}
theorem oq.QB {M:Nat→Prop} (h:oq tb W C D w m1 g1 m2 g2 sc wx) (hx:Ext M wx wy) (ht:bB wy tb) (hM:∀i,M i→i=tb∨(W.heap.size≤i∧i≠C∧i≠D∧i≠g1∧i≠g2)):oq tb W C D w m1 g1 m2 g2 sc wy:=by
 obtain ⟨e,_,c,d,b1,b2,l0,l1,l2,l3,l4,n1,n2,n3,n4,n5⟩:=h
 exact ⟨e.aJ hx (fun i hi hm=>by rcases hM i hm with q|q;exact q;omega),ht,hx.blk c (fun m=>by have:=hM _ m;omega),hx.blk d (fun m=>by have:=hM _ m;omega),hx.blk b1 (fun m=>by have:=hM _ m;omega),hx.blk b2 (fun m=>by have:=hM _ m;omega),l0,l1,l2,l3,l4,n1,n2,n3,n4,n5⟩
theorem oq.step (h:oq tb W C D w m1 g1 m2 g2 sc wx) (hx:Ext (At tb) wx wy) (ht:bB wy tb):oq tb W C D w m1 g1 m2 g2 sc wy:=h.QB hx ht (fun _ e=> .inl e)
theorem oq.aC (h:oq tb W C D w m1 g1 m2 g2 sc wx) (hx:Ext No wx wy):oq tb W C D w m1 g1 m2 g2 sc wy:=h.QB hx (h.tape.ext hx) (fun _ e=>e.elim)
theorem oq.KC (h:oq tb W C D w m1 g1 m2 g2 sc wx) (hb:fU wy g3 w m3) (hx:Ext No wx wy) (hg:wx.heap.size≤g3):oq tb W C D w m3 g3 m2 g2 sc ((wy.setCell ⟨D,0,none⟩ (.int .i64 (w:Int))).setCell ⟨D,1,none⟩ (.slice (some ⟨g3,0,none⟩) (nw w) (nw w))):=by
 have hC:=lt_of_block h.bV
 have hD:=lt_of_block h.dB
 have hs0:=h.ext.size
 obtain ⟨e,t,c,d,b1,b2,l0,l1,l2,l3,l4,n1,n2,n3,n4,n5⟩:=h.aC hx
 have hy:=jV (W:=wy) (w1:=wy) (Ext.refl _ _) (u0:= .int .i64 (w:Int)) (u1:= .slice (some ⟨g3,0,none⟩) (nw w) (nw w)) D
 exact ⟨e.aJ hy (fun i hi m=>by unfold At at m;omega),bB.gM t hy (fun i hi m=>by unfold At at m;omega),hy.blk c (by unfold At;omega),(az (j:=1) (az (j:=0) d)).trans rfl,hy.blk hb (by unfold At;omega),hy.blk b2 (by unfold At;omega),l0,l1,l2,by omega,l4,n1,by omega,n3,by omega,n5⟩
theorem oq.ND (h:oq tb W C D w m1 g1 m2 g2 sc wx) (hb:fU wy g3 w m3) (hx:Ext No wx wy) (hg:wx.heap.size≤g3):oq tb W C D w m1 g1 m3 g3 sc ((wy.setCell ⟨D,2,none⟩ (.int .i64 (w:Int))).setCell ⟨D,3,none⟩ (.slice (some ⟨g3,0,none⟩) (nw w) (nw w))):=by
 have hC:=lt_of_block h.bV
 have hD:=lt_of_block h.dB
 have hs0:=h.ext.size
 obtain ⟨e,t,c,d,b1,b2,l0,l1,l2,l3,l4,n1,n2,n3,n4,n5⟩:=h.aC hx
 have hy:Ext (At D) wy ((wy.setCell ⟨D,2,none⟩ (.int .i64 (w:Int))).setCell ⟨D,3,none⟩ (.slice (some ⟨g3,0,none⟩) (nw w) (nw w))):=
  ((Ext.refl (At D) _).setCell (p:=⟨D,2,none⟩) (fun _=>rfl) _).setCell (p:=⟨D,3,none⟩) (fun _=>rfl) _
 exact ⟨e.aJ hy (fun i hi m=>by unfold At at m;omega),bB.gM t hy (fun i hi m=>by unfold At at m;omega),hy.blk c (by unfold At;omega),(az (j:=3) (az (j:=2) d)).trans rfl,hy.blk b1 (by unfold At;omega),hy.blk hb (by unfold At;omega),l0,l1,l2,l3,by omega,n1,n2,by omega,n4,by omega⟩
theorem oq.acH (h:oq tb W C D w m1 g1 m2 g2 sc wx):oq tb W C D w m1 g1 m2 g2 VP (wx.setCell ⟨D,4,none⟩ VP):=by
 obtain ⟨e,t,c,d,b1,b2,l0,l1,l2,l3,l4,n1,n2,n3,n4,n5⟩:=h
 have hy:Ext (At D) wx (wx.setCell ⟨D,4,none⟩ VP):=(Ext.refl (At D) _).setCell (p:=⟨D,4,none⟩) (fun _=>rfl) _
 exact ⟨e.aJ hy (fun i hi m=>by unfold At at m;omega),bB.gM t hy (fun i hi m=>by unfold At at m;omega),hy.blk c (by unfold At;omega),(az (j:=4) d).trans rfl,hy.blk b1 (by unfold At;omega),hy.blk b2 (by unfold At;omega),l0,l1,l2,l3,l4,n1,n2,n3,n4,n5⟩
end
end Go.Proofs.YtmddchceacmopaaGreatDoor
namespace Go.Proofs.YtmddchceacmopaaGreatDoor
open Go Go.RowKit
theorem Qz:(Tryz.prog.info? 75).map (fun i=>(i.zero,i.size,i.bytes))=some (some (.agg #[.int .i64 0,.int .i64 0]),2,16):=by kernel_rfl
structure oO (tb:Nat) (W:World) (C D w m1 g1 m2 g2 B:Nat) (l:List (Int×Int)) (sc:Value) (wx:World):Prop where
 t:oq tb W C D w m1 g1 m2 g2 sc wx
 own:wx.ownsRow B 75 2 sc l.length (iZ l)
 c:C < B
 d:D < B
 g1:g1 < B
 g2:g2 < B
 sz:B≤wx.heap.size
section
variable {tb:Nat} {W wx wy:World} {C D w m1 g1 m2 g2 B:Nat} {l l2:List (Int×Int)} {sc VP:Value}
theorem wR {M:Nat→Prop} (h:wx.ownsRow B 75 2 sc l.length (iZ l)) (hx:Ext M wx wy) (hM:∀i,B≤i→¬M i):wy.ownsRow B 75 2 sc l.length (iZ l):=by
 obtain ⟨h1,h2⟩:=h
 exact yH
theorem oO.step (h:oO tb W C D w m1 g1 m2 g2 B l sc wx) (hx:Ext (At tb) wx wy) (ht:bB wy tb):oO tb W C D w m1 g1 m2 g2 B l sc wy:=by
 have h1:=h.c
 have h2:=h.t.Qu
 have h3:=h.t.ltb
 exact ⟨h.t.step hx ht,wR h.own hx (fun i hi e=>by unfold At at e;omega),h1,h.d,h.g1,h.g2,Nat.le_trans h.sz hx.size⟩
theorem oO.slice (h:oO tb W C D w m1 g1 m2 g2 B l sc wx):∃a n,sc= .slice a l.length n:=(Row.bG (M:=No) h.own (fun _ _ x=>x)).slice
theorem oO.app (h:oO tb W C D w m1 g1 m2 g2 B l sc wx) {o:Obj} {x:List Value} {n:Nat} (hn:n=l2.length) (hxl:x=iZ l2) (hown:wy.ownsRow B 75 2 VP n x) (hg:(wx.alloc o).grownBy wy sc.ownBlock):oO tb W C D w m1 g1 m2 g2 B l2 VP (wy.setCell ⟨D,4,none⟩ VP):=by
 subst hn hxl
 have h1:=h.c
 have h2:=h.d
 have h3:=h.g1
 have h4:=h.g2
 have h5:=h.t.Qu
 have h6:=h.t.ltb
 have hy:Ext (From B) wx wy:=((Ext.refl (From B) wx).alloc o).grown hg (fun k hk hlt=>(World.ownsRow.lt h.own k hk).1)
 have ht:=h.t.QB hy (bB.gM h.t.tape hy (fun i hi m=>by unfold From at m;omega)) (fun i m=> .inr (by unfold From at m;omega))
 refine ⟨ht.acH,wR hown ((Ext.refl (At D) wy).setCell (p:=⟨D,4,none⟩) (fun _=>rfl) VP) (fun i hi e=>by unfold At at e;omega),h1,h2,h3,h4,?_⟩
 have:=h.sz
 have:=hy.size
 simp [World.setCell];omega
theorem oO.Ug (h:oO tb W C D w m1 g1 m2 g2 B l sc wx) {o:Obj} (hg:(wx.alloc o).grownBy wy sc.ownBlock):wy.heap[D]? =some (.cells #[.int .i64 (w:Int),.slice (some ⟨g1,0,none⟩) (nw w) (nw w),.int .i64 (w:Int),.slice (some ⟨g2,0,none⟩) (nw w) (nw w),sc] 47 (0,0)):=by
 have h2:=h.d
 have hy:Ext (From B) wx wy:=((Ext.refl (From B) wx).alloc o).grown hg (fun k hk hlt=>(World.ownsRow.lt h.own k hk).1)
 exact hy.blk h.t.dB (by unfold From;omega)
theorem FN (l:List (Int×Int)) (a b:Int):iZ l++[.int .i64 a,.int .i64 b]=iZ (l++[(a,b)]):=by simp [iZ,Jb]
end
def aa' (tb w:Nat) (W:World) (e:Ending) (w':World):Prop:=
 ∃(t:cK) (sg sk sc:Value),t.w=w∧e= .returned (.agg #[.int .i64 (w:Int),sg,.int .i64 (w:Int),sk,sc])∧Hid (dF (Lo W.heap.size) w' sg sk sc t)∧bB w' tb∧Ext (At tb) W w'
set_option maxRecDepth 100000 in
set_option maxHeartbeats 4000000 in
theorem M7 (tb w:Nat) (W:World) (hw:w≤256) (ht:bB W tb):Calls Tryz.prog 22 #[.pointer (some ⟨tb,0,none⟩),.int .i64 (w:Int)] W (aa' tb w W):=by
 obtain ⟨i0,hi0,hz0,hz1,hz2⟩:=info_parts Qz
 have HT:=aa ht
 have IU:=ht.lt
 have hw':(w:Int)≤256:=by omega
 clear ht
 go_enter Tryz.func22,Tryz.ntmps22
 go_wp2_with fail
 have hxa:Ext No W (W.alloc (.cells #[.int .i64 0,.slice none 0 0,.int .i64 0,.slice none 0 0,.slice none 0 0] 47)):=(Ext.refl _ _).alloc _
 have hC:(W.alloc (.cells #[.int .i64 0,.slice none 0 0,.int .i64 0,.slice none 0 0,.slice none 0 0] 47)).heap[W.heap.size]? =some (.cells #[.int .i64 0,.slice none 0 0,.int .i64 0,.slice none 0 0,.slice none 0 0] 47 (0,0)):=ah rfl
 refine (fK w _ hw).mono ?_
 rintro e1 w1 ⟨g1,rfl,hb1,hg1,hx1⟩
 have zO:=hx1.blk hC ax
 have hs1:=lt_of_block zO
 have hs2:=lt_of_block hb1.out
 have hg1':W.heap.size+1≤g1:=by simpa using hg1
 have hxb:=hxa.af hx1
 clear hxa hC hx1 hg1
 go_wp2_with fail
 refine (fK w _ hw).mono ?_
 rintro e2 w2 ⟨g2,rfl,hb2,hg2,hx2⟩
 have hC2:=hx2.blk zO ax
 have aaO:fU w2 g1 w 0:=hx2.blk hb1 ax
 have hs3:=lt_of_block hb2.out
 have hs4:=hx2.size
 have hx3:=(hxb.af hx2).alloc (.cells #[.int .i64 (w:Int),.slice (some ⟨g1,0,none⟩) (nw w) (nw w),.int .i64 (w:Int),.slice (some ⟨g2,0,none⟩) (nw w) (nw w),.slice none 0 0] 47)
 have hm1:=aa (show oq tb W W.heap.size w2.heap.size w 0 g1 0 g2 (.slice none 0 0) (w2.alloc (.cells #[.int .i64 (w:Int),.slice (some ⟨g1,0,none⟩) (nw w) (nw w),.int .i64 (w:Int),.slice (some ⟨g2,0,none⟩) (nw w) (nw w),.slice none 0 0] 47)) from
  ⟨hx3.mono (fun _ _ x=>x.elim),HT.ext hx3,ay hC2,ah rfl,ay aaO,ay hb2,IU,by omega,by omega,by omega,by omega,by omega,by omega,by omega,by omega,by omega⟩)
 clear hb1 zO hs1 hs2 hg1' hxb hb2 hg2 hx2 hC2 aaO hs3 hs4 hx3 HT
 go_wp2_with fail
 generalize World.alloc w2 _=W1 at*
 generalize w2.heap.size=D at*
 go_loopw [6] (fun i wr=>∃(k m1 g1 m2 g2:Nat),k≤w∧i= .int .i64 k∧Hid (m1 < 2 ^ w∧m2 < 2 ^ w)∧Hid (oq tb W W.heap.size D w m1 g1 m2 g2 (.slice none 0 0) wr)) (fun i _=>w - (intOf i).toNat)
 case atStart=>exact ⟨0,0,g1,0,g2,Nat.zero_le _,rfl,aa ⟨Nat.two_pow_pos w,Nat.two_pow_pos w⟩,hm1⟩
 clear hm1
 obtain ⟨k,m1,g1,m2,g2,hk,rfl,hmw,hm⟩:=hrel
 rename World=>wr
 by_cases hlt:k < w
 ·have hpos:(0:Int)≤(k:Int):=by omega
  have HKK:Hid (Value.int .i64 ((k:Int)+1)= .int .i64 ((k+1:Nat):Int)):=aa (by rw [show ((k+1:Nat):Int)=(k:Int)+1 from by omega])
  go_wp2_with fail
  refine (jB tb 6 (by decide) (by decide) _ hm.tape).mono ?_
  rintro e2 w2 ⟨r,rfl,hr,ht2,hx2,_⟩
  have hm2:=aa (hm.step hx2 ht2)
  clear hm hx2 ht2
  by_cases h1:r=1
  ·subst h1
   have cD:=cellOf hm2.dB
   go_wp2_with fail
   refine (iW w m1 k _ _ hlt (hm2.b1.set (M:=No) hw hmw.1 ax)).mono ?_
   rintro e3 w3 ⟨g3,rfl,hb3,hg3,hx3⟩
   have gX:=aa (hm2.KC hb3 hx3 hg3)
   have fD:=aH (hm2.aC hx3).dB
   have Tf:=cellOf (hm2.aC hx3).dB
   clear hm2 hb3 hg3 hx3 cD
   go_wp2_with fail
   go_roundw
   case rel=>exact ⟨k+1,_,g3,_,g2,by omega,HKK,aa ⟨fZ hmw.1 (eZ hlt),hmw.2⟩,gX⟩
   case measure=>simp [intOf];omega
  have h1':¬(r:Int)=1:=by omega
  by_cases h2:r=2∨r=3
  ·have cD:=cellOf hm2.dB
   rcases h2 with rfl|rfl
   all_goals
    go_wp2_with fail
    refine (iW w m2 k _ _ hlt (hm2.b2.set (M:=No) hw hmw.2 ax)).mono ?_
    rintro e3 w3 ⟨g3,rfl,hb3,hg3,hx3⟩
    have gX:=aa (hm2.ND hb3 hx3 hg3)
    have fD:=aH (hm2.aC hx3).dB
    have Tf:=cellOf (hm2.aC hx3).dB
    clear hm2 hb3 hg3 hx3 cD
    go_wp2_with fail
    go_roundw
    case rel=>exact ⟨k+1,_,g1,_,g3,by omega,HKK,aa ⟨hmw.1,fZ hmw.2 (eZ hlt)⟩,gX⟩
    case measure=>simp [intOf];omega
  have h2':¬(r:Int)=2:=by omega
  have h3':¬(r:Int)=3:=by omega
  go_wp2_with fail
  go_roundw
  case rel=>exact ⟨k+1,_,g1,_,g2,by omega,HKK,hmw,hm2⟩
  case measure=>simp [intOf];omega
 have hge:(w:Int)≤(k:Int):=by omega
 go_wp2_with fail
 clear hge hlt hk
 have hcn:Hid (oO tb W W.heap.size D w m1 g1 m2 g2 wr.heap.size [] (.slice none 0 0) wr):=aa ⟨hm.out,World.ownsRow_nil _ _ _ _,lt_of_block hm.bV,lt_of_block hm.dB,lt_of_block hm.b1,lt_of_block hm.b2,Nat.le_refl _⟩
 clear hm
 generalize wr.heap.size=B at*
 go_loopw [7] (fun i wr=>∃(a:Nat) (l:List (Int×Int)) (sc:Value),a≤w∧i= .int .i64 a∧Hid (KZ w a 0 l)∧Hid (oO tb W W.heap.size D w m1 g1 m2 g2 B l sc wr)) (fun i _=>w - (intOf i).toNat)
 case atStart=>exact ⟨0,[],_,Nat.zero_le _,rfl,KZ.nil w,hcn⟩
 clear hcn
 obtain ⟨a,l,sc,ha,rfl,hl,hm⟩:=hrel
 rename World=>wr
 by_cases hlt:a < w
 ·have acS:(0:Int)≤(a:Int):=by omega
  have hda:decide ((a:Int) < (w:Int))=true:=by simp;omega
  have HKA:Hid (Value.int .i64 ((a:Int)+1)= .int .i64 ((a+1:Nat):Int)):=aa (by rw [show ((a+1:Nat):Int)=(a:Int)+1 from by omega])
  go_wp2_with fail
  go_loopw [8] (fun i wr=>∃(b:Nat) (l:List (Int×Int)) (sc:Value),b≤w∧i= .int .i64 b∧Hid (KZ w a b l)∧Hid (oO tb W W.heap.size D w m1 g1 m2 g2 B l sc wr)) (fun i _=>w - (intOf i).toNat)
  case atStart=>exact ⟨0,l,_,Nat.zero_le _,rfl,hl,hm⟩
  clear hm hl
  obtain ⟨b,l,sc,hb,rfl,hl,hm⟩:=hrel
  rename World=>wr
  have acT:(0:Int)≤(b:Int):=by omega
  have Cj:Hid (Value.int .i64 ((b:Int)+1)= .int .i64 ((b+1:Nat):Int)):=aa (by rw [show ((b+1:Nat):Int)=(b:Int)+1 from by omega])
  obtain ⟨al,cl,rfl⟩:=hm.slice
  have cD:=cellOf hm.t.dB
  by_cases hbw:b < w∧l.length < 12
  ·obtain ⟨hbw,hl12⟩:=hbw
   have hll:(l.length:Int) < 12:=by omega
   go_wp2_with fail
   refine (jB tb (2*(w:Int)) (by omega) (by omega) _ hm.t.tape).mono ?_
   rintro e2 w2 ⟨r,rfl,hr,ht2,hx2,hz2'⟩
   clear hz2'
   have hm2:=aa (hm.step hx2 ht2)
   clear hm hx2 ht2 cD
   by_cases h1:r=1
   ·subst h1
    have cD:=cellOf hm2.t.dB
    have hl63:l.length≤1000000:=by omega
    have hsz:=hm2.sz
    go_wp2_with (at_builtin;(refine bE _ rfl (.tmp 58) (.tmp 62) 45 rfl B 75 i0 _ 2 16 Tryz.underlying45 hi0 hz0 hz1 hz2 rfl (by omega) (.slice al l.length cl) l.length (iZ l) rfl (wR hm2.out.own ((Ext.refl No _).alloc _) (fun _ _ x=>x)) No (some ⟨w2.heap.size,0,none⟩) 1 1 [.int .i64 (a:Int),.int .i64 (b:Int)] rfl (Row.block (ah rfl) rfl ax (by omega)) (by simp [Value.oneCell']) (by omega) (by omega) (by simp;omega) ?_);(intro v1 w1 hown1 hg1 _);(obtain ⟨a1,c1,rfl⟩:=(Row.bG (M:=No) hown1 (fun _ _ x=>x)).slice);(have gX:=aa (hm2.out.app (l2:=l++[((a:Int),(b:Int))]) (by simp) (FN l a b) hown1 hg1));(have hD3:=hm2.out.Ug hg1);(have cD3:=cellOf hD3);(have fD3:=aH hD3);(clear hm2 hown1 hg1 hD3 cD hsz))
    go_roundw
    case rel=>exact ⟨b+1,_,_,by omega,Cj,hl.app hlt hbw hl12,gX⟩
    case measure=>simp [intOf];omega
   have h1':¬(r:Int)=1:=by omega
   go_wp2_with fail
   go_roundw
   case rel=>exact ⟨b+1,l,_,by omega,Cj,hl.col,hm2⟩
   case measure=>simp [intOf];omega
  by_cases hbw2:b < w
  ·have hll:12≤(l.length:Int):=by omega
   exact GD
  have hge:(w:Int)≤(b:Int):=by omega
  exact GD
 have hge:(w:Int)≤(a:Int):=by omega
 have cD:=cellOf hm.t.dB
 have cC:=cellOf hm.t.bV
 have fC:=aH hm.t.bV
 obtain ⟨al,cl,rfl⟩:=hm.slice
 go_wp2_with fail
 refine aW rfl ?_
 simp [results,Tryz.results22,go_sem,cC]
 generalize hwe:(World.setCell _ (Addr.mk W.heap.size 4 none) _)=we
 have hx5:Ext (At W.heap.size) wr we:=by
  subst hwe
  exact (((((Ext.refl (At W.heap.size) wr).setCell (p:=⟨W.heap.size,0,none⟩) (fun _=>rfl) _).setCell (p:=⟨W.heap.size,1,none⟩) (fun _=>rfl) _).setCell (p:=⟨W.heap.size,2,none⟩) (fun _=>rfl) _).setCell (p:=⟨W.heap.size,3,none⟩) (fun _=>rfl) _).setCell (p:=⟨W.heap.size,4,none⟩) (fun _=>rfl) _
 have hmm:=hm.out
 have hc:=hmm.c
 have hd1:=hmm.t.acD
 have hd2:=hmm.t.acE
 have hn1:=hmm.t.acF
 have hn2:=hmm.t.acG
 have hlo:=hl.out
 refine ⟨⟨w,m1,m2,l⟩,_,_,_,rfl,rfl,aa ⟨?_,?_,?_,?_⟩,?_,?_⟩
 ·exact (show fU we g1 w m1 from hx5.blk hmm.t.b1 (by unfold At;omega)).set hw hmw.1 (by unfold Lo;omega)
 ·exact (show fU we g2 w m2 from hx5.blk hmm.t.b2 (by unfold At;omega)).set hw hmw.2 (by unfold Lo;omega)
 ·exact Row.bG (wR hmm.own hx5 (fun i hi e=>by unfold At at e;omega)) (fun i hi e=>by unfold Lo at e;omega)
 ·exact ⟨hw,hmw.1,hmw.2,by have:=hlo.len;show l.length≤64;omega,hlo.inr,hlo.sorted⟩
 ·exact bB.gM hmm.t.tape hx5 (fun i hi e=>by unfold At at e;omega)
 exact hmm.t.ext.aJ hx5 (fun i hi e=>by unfold At at e;omega)
end Go.Proofs.YtmddchceacmopaaGreatDoor
namespace Go.Proofs.YtmddchceacmopaaGreatDoor
open Go Go.RowKit
def kW (s t:bC):Bool:=decide (s.width=t.width∧s.words=t.words)
theorem Ib {s t:bC} (h:¬(s.width=t.width∧s.words=t.words)):kW s t=false:=decide_eq_false h
set_option maxRecDepth 100000 in
set_option maxHeartbeats 1000000 in
theorem sw (s t:bC) (u v:Value) (W:World) (hs:oo No W u s) (ht:oo No W v t):Calls Tryz.prog 41 #[u,v] W (bZ (kW s t) W):=by
 obtain ⟨su,rfl,hu⟩:=hs
 obtain ⟨sv,rfl,hv⟩:=ht
 have HU:=aa hu
 have HV:=aa hv
 obtain ⟨au,cu,rfl⟩:=hu.slice
 obtain ⟨av,cv,rfl⟩:=hv.slice
 clear hu hv
 have hxa:Ext No W ((W.alloc (.cells #[.int .i64 s.width,.slice au s.words.length cu] 44)).alloc (.cells #[.int .i64 t.width,.slice av t.words.length cv] 44)):=((Ext.refl _ _).alloc _).alloc _
 have hA:((W.alloc (.cells #[.int .i64 s.width,.slice au s.words.length cu] 44)).alloc (.cells #[.int .i64 t.width,.slice av t.words.length cv] 44)).heap[W.heap.size]? =some (.cells #[.int .i64 s.width,.slice au s.words.length cu] 44 (0,0)):=ay (ah rfl)
 have hB:((W.alloc (.cells #[.int .i64 s.width,.slice au s.words.length cu] 44)).alloc (.cells #[.int .i64 t.width,.slice av t.words.length cv] 44)).heap[W.heap.size+1]? =some (.cells #[.int .i64 t.width,.slice av t.words.length cv] 44 (0,0)):=ah (by simp)
 have cA:=cellOf hA
 have cB:=cellOf hB
 by_cases hw:s.width=t.width
 ·by_cases hl:s.words.length=t.words.length
  ·have hbig:s.words.length≤9223372036854775807:=HU.row.2.1
   have HW:=aa hw
   have HL:=aa hl
   rw [←hw] at hA hB hxa ⊢
   rw [←hl] at hA hB hxa HV ⊢
   clear hw hl cA cB
   have cA:=cellOf hA
   have cB:=cellOf hB
   go_enter Tryz.func41,Tryz.ntmps41
   go_wp2_with fail
   generalize World.alloc (World.alloc W _) _=W0 at*
   clear cA cB
   have hx0:Hid (Ext No W0 W0):=aa (Ext.refl _ _)
   go_loopw [5] (fun i wr=>∃k:Nat,k≤s.words.length∧i= .int .i64 k∧Hid (∀j (h1:j < s.words.length) (h2:j < t.words.length),j < k→s.words[j]=t.words[j])∧Hid (Ext No W0 wr)) (fun i _=>s.words.length - (intOf i).toNat)
   case atStart=>exact yG
   clear hx0
   obtain ⟨k,hk,rfl,hq,hx⟩:=hrel
   rename World=>wr
   have cA:=cellOf (hx.blk hA ax)
   have cB:=cellOf (hx.blk hB ax)
   have hpos:(0:Int)≤(k:Int):=by omega
   by_cases hlt:k < s.words.length
   ·have hlt2:k < t.words.length:=HL.out▸hlt
    obtain ⟨bu,ou,pu,hsu,_,_,KX⟩:=(HU.aj (hxa.af hx)).at hlt
    obtain ⟨bv,ov,pv,hsv,_,_,hcv⟩:=(HV.aj (hxa.af hx)).at hlt2
    rw [←HL] at hsv
    simp only [Value.slice.injEq] at hsu hsv
    obtain ⟨rfl,_,rfl⟩:=hsu
    obtain ⟨rfl,_,rfl⟩:=hsv
    have q0:=KX k hlt
    have q1:=hcv k hlt2
    obtain ⟨x,hxe⟩:∃x,x=s.words[k]:=⟨_,rfl⟩
    obtain ⟨y,hye⟩:∃y,y=t.words[k]:=⟨_,rfl⟩
    rw [←hxe] at q0
    rw [←hye] at q1
    have I9:=aa hxe
    have VL:=aa hye
    clear KX hcv hxe hye
    have HKK:Hid (Value.int .i64 ((k:Int)+1)= .int .i64 ((k+1:Nat):Int)):=aa (by rw [show ((k+1:Nat):Int)=(k:Int)+1 from by omega])
    have hlz:(k:Int) < (s.words.length:Int):=by omega
    by_cases he:x=y
    ·have hez:(x:Int)=(y:Int):=by omega
     go_wp2_with fail
     go_quiet (fail)
     go_wp2_with fail
     go_roundw
     case rel=>exact ⟨k+1,by omega,HKK,aa (fun j h1 h2 h3=>by
      by_cases hj:j < k
      ·exact hq j h1 h2 hj
      obtain rfl:j=k:=by omega
      rw [←I9,←VL,he]),aa (hx.drewN _)⟩
     case measure=>simp [intOf];omega
    have hez:¬(x:Int)=(y:Int):=by omega
    have e:kW s t=false:=Ib (fun h=>he (by rw [I9,VL];simp only [h.2]))
    go_wp2_with fail
    go_quiet (fail)
    go_wp2_with fail
    go_ret
    rw [e]
    exact ⟨rfl,hxa.af (hx.drewN _)⟩
   have hge:(s.words.length:Int)≤(k:Int):=by omega
   have e:kW s t=true:=decide_eq_true ⟨HW.out,List.ext_getElem HL.out (fun j h1 h2=>hq j h1 h2 (by omega))⟩
   go_wp2_with fail
   go_ret
   rw [e]
   exact ⟨rfl,hxa.af hx⟩
  have e:kW s t=false:=Ib (fun h=>hl (by rw [h.2]))
  rw [e]
  have hl':¬(s.words.length:Int)=(t.words.length:Int):=by omega
  exact GG
 have e:kW s t=false:=Ib (fun h=>hw h.1)
 rw [e]
 exact GG


import Derived.Test.YtmddchceacmopaaGreatDoorF6
import Derived.Test.YtmddchceacmopaaGreatDoorHeldL
set_option linter.unusedVariables false
set_option linter.unusedSimpArgs false
namespace Go.Proofs.YtmddchceacmopaaGreatDoor
open Go Go.RowKit
theorem lK {p:Prop} (h:p:=by intro w hSw;(have fG:Ext No wr _:=hSw);(have q0:=fG.keep q0);go_simp;(try with_reducible rfl)):p:=h
theorem F7 {p:Prop} (h:p:=by intro w hSw;(have fG:Ext No wr _:=hSw);(have q0:=fG.keep q1);go_simp;(try with_reducible rfl)):p:=h
theorem F9 {p:Prop} (h:p:=by
 go_wp2_with fail
 go_ret
 exact iw (fun j hj=>hm j hj (by omega)) hx):p:=h
theorem tN {p:Prop} (h:p:=by
 go_enter Tryz.func31,Tryz.ntmps31
 go_wp2_with fail
 go_ret
 exact aP (by omega) (Ext.refl _ _)):p:=h
theorem iw {p:Prop} {W w':World} (h:p) (hx:Ext No W w'):kz p W (.returned (.bool true)) w':=⟨true,rfl,⟨fun _=>h,fun _=>rfl⟩,hx⟩
theorem iG {p:Prop} (h:true=true↔p):p:=h.1 rfl
theorem ig {p:Prop} (h:false=true↔p):¬p:=fun e=>by cases h.2 e
theorem aP {p:Prop} {W w':World} (h:¬p) (hx:Ext No W w'):kz p W (.returned (.bool false)) w':=⟨false,rfl,⟨fun e=>(by cases e),fun e=>absurd e h⟩,hx⟩
set_option maxRecDepth 100000 in
set_option maxHeartbeats 2000000 in
theorem uM (sl:Value) (l:List Int) (n:Int) (W:World) (h:Ints No W .i64 sl l):
  Calls Tryz.prog 33 #[sl,.int .i64 n] W (kz (oI l n) W):=by
 have H:=aa h
 obtain ⟨a,cap,rfl⟩:=Row.slice h
 have hlen:=h.2.1
 clear h
 go_enter Tryz.func33,Tryz.ntmps33
 go_wp2_with fail
 go_loopw [5,6,9] (fun _ _ i wr=>∃k:Nat,k≤l.length∧i= .int .i64 k∧Ext No W wr∧Hid (∀j (hj:j < l.length),j < k→0≤l[j]∧l[j] < n∧(0 < j→l[j - 1]'(by omega) < l[j]))) (fun _ _ i _=>l.length - (intOf i).toNat)
 case atStart=>exact mY
 obtain ⟨k,hk,rfl,hx,hm⟩:=hrel
 by_cases hlt:k < l.length
 ·obtain ⟨b,off,cap',hsl,hb1,_,hcell⟩:=H.at hlt
  simp only [Value.slice.injEq] at hsl
  obtain ⟨rfl,_,rfl⟩:=hsl
  have q0:=hx.keep (hcell k hlt)
  have HK:=aa hcell
  clear hcell
  obtain ⟨y,hy⟩:∃y,y=l[k]:=⟨_,rfl⟩
  rw [←hy] at q0
  have HY:=aa hy
  clear hy
  by_cases h1:y < 0
  ·go_wp2_with fail
   go_ret
   exact aP (fun e=>by have:=(e k hlt).1;rw [←HY] at this;omega) hx
  by_cases h2:n≤y
  ·go_wp2_with fail
   go_ret
   exact aP (fun e=>by have:=(e k hlt).2.1;rw [←HY] at this;omega) hx
  by_cases h3:k=0
  ·subst h3
   rw [Nat.add_zero] at q0
   go_wp2_with fail
   go_roundw
   case rel=>exact ⟨1,by omega,by go_num,hx,aa (fun j hj hjk=>by
    obtain rfl:j=0:=by omega
    rw [←HY]
    exact ⟨by omega,by omega,fun e=>absurd e (Nat.lt_irrefl _)⟩)⟩
   case measure=>simp [intOf];omega
  have hk1:k - 1 < l.length:=by omega
  have q1:=hx.keep (HK (k - 1) hk1)
  obtain ⟨z,hz⟩:∃z,z=l[k - 1]:=⟨_,rfl⟩
  rw [←hz] at q1
  have HZ:=aa hz
  clear hz
  have hpos:(0:Int) < (k:Int):=by omega
  have hlm:IntKind.i64.wrap ((k:Int) - 1)=((k - 1:Nat):Int):=by rw [IntWalk.i64_in _ (by omega)];omega
  have hlp:0≤((k - 1:Nat):Int):=by omega
  have hlq:((k - 1:Nat):Int) < (l.length:Int):=by omega
  by_cases h4:y≤z
  ·go_wp2_with fail
   go_ret
   exact aP (fun e=>by have:=(e k hlt).2.2 (by omega);rw [←HY,←HZ] at this;omega) hx
  go_wp2_with fail
  go_roundw
  case rel=>exact ⟨k+1,by omega,by go_num,hx,aa (fun j hj hjk=>by
   by_cases e:j=k
   ·subst e
    rw [←HY,←HZ]
    exact ⟨by omega,by omega,fun _=>by omega⟩
   exact hm j hj (by omega))⟩
  case measure=>simp [intOf];omega
 exact F9
theorem QO {l:List Int} {n:Int} (h:oI l n):∀k (hk:k < l.length),(k:Int)≤l[k]
 |0,hk=>(h 0 hk).1
 |k+1,hk=>by
  have h1:=QO h k (by omega)
  have h2:=(h (k+1) hk).2.2 (by omega)
  simp only [Nat.add_sub_cancel] at h2
  omega
theorem Hw {l:List Int} {n:Int} (h:oI l n) (h0:0 < l.length):(l.length:Int)≤n:=by
 have h1:=QO h (l.length - 1) (by omega)
 have h2:=(h (l.length - 1) (by omega)).2.1
 omega
theorem DL (x n:Int) (W:World):Calls Tryz.prog 31 #[.int .i64 x,.int .i64 n] W (kz ((0≤x∧x≤256)∧1≤n∧n≤256) W):=by
 by_cases h1:0≤x
 ·by_cases h2:x≤256
  ·by_cases h3:1≤n
   ·by_cases h4:n≤256
    ·go_enter Tryz.func31,Tryz.ntmps31
     go_wp2_with fail
     go_ret
     exact iw ⟨⟨h1,h2⟩,h3,h4⟩ (Ext.refl _ _)
    exact tN
   exact tN
  exact tN
 exact tN
set_option maxHeartbeats 1000000 in
theorem OQ (x:Int) (p:bC) (v:Value) (g:Nat) (W:World) (h:aU No W v p.words) (h0:W.cell? ⟨g,0,none⟩=some (.int .i64 x)):
  Calls Tryz.prog 75 #[.agg #[.int .i64 p.width,v],.pointer (some ⟨g,0,none⟩)] W (kz (¬ze x p) W):=by
 have HR:Hid (oo No W (.agg #[.int .i64 p.width,v]) p):=aa ⟨_,rfl,h⟩
 obtain ⟨a,n,c,rfl⟩:=h.shaped
 clear h
 have hx0:Ext No W (W.alloc (.cells #[.int .i64 p.width,.slice a n c] 44)):=(Ext.refl _ _).alloc _
 have HX:=aa hx0
 clear hx0
 go_enter Tryz.func75,Tryz.ntmps75
 go_wp2_with fail
 refine (eH _ p _ (HR.aj HX)).mono ?_
 rintro e1 w1 ⟨rfl,hx1⟩
 have hB:=hx1.blk (ah (w:=W) (o:= .cells #[.int .i64 p.width,.slice a n c] 44) rfl) ax
 have hy:=HX.af hx1
 have c0:=hy.keep h0
 have cB:=cellOf hB
 have HY:=aa hy
 clear hy hx1 hB h0
 cases hv:fH p with
 |false=>
  go_wp2_with fail
  go_ret
  exact iw (fun e=>by have:=e.1;rw [hv] at this;cases this) HY
 |true=>
  have HV:=aa hv
  clear hv
  obtain ⟨y,hy⟩:∃y,y=p.width:=⟨_,rfl⟩
  rw [←hy] at cB
  have HP:=aa hy
  clear hy
  go_wp2_with fail
  go_ret
  exact ⟨_,rfl,⟨fun e h=>(by have:=HP.trans h.2;simp [this] at e),fun e=>by have:¬y=x:=fun q=>e ⟨HV.out,HP.symm.trans q⟩;simp [this]⟩,HY⟩
set_option maxRecDepth 100000 in
set_option maxHeartbeats 2000000 in
theorem L6 (x:Int) (g:Nat) (sl:Value) (L:List (bC×Value)) (W:World) (h:jb kS No W sl L) (h0:W.cell? ⟨g,0,none⟩=some (.int .i64 x)):
  Calls Tryz.prog 106 #[sl,.func (.func 75) #[] #[.pointer (some ⟨g,0,none⟩)]] W fun e w'=>(∃z:Int,e= .returned (.int .i64 z)∧(0≤z↔∃(k:Nat) (hk:k < L.length),¬ze x L[k].1))∧Ext No W w':=by
 have H:=aa h
 obtain ⟨a,cap,rfl⟩:=h.slice
 have hlen:=h.row.2.1
 clear h
 go_enter Tryz.func106,Tryz.ntmps106
 go_wp2_with fail
 go_loopw [5,8] (fun _ i wr=>∃k:Nat,k≤L.length∧i= .int .i64 k∧Ext No W wr∧Hid (∀j (hj:j < L.length),j < k→¬¬ze x L[j].1)) (fun _ i _=>L.length - (intOf i).toNat)
 case atStart=>exact mY
 obtain ⟨k,hk,rfl,hx,hm⟩:=hrel
 by_cases hlt:k < L.length
 ·obtain ⟨b,off,cap',hsl,hb1,_,hcell⟩:=H.atS hlt
  simp only [Value.slice.injEq] at hsl
  obtain ⟨rfl,_,rfl⟩:=hsl
  have hq:=hcell k hlt
  have hok:=H.ok L[k] (List.getElem_mem hlt)
  clear hcell
  obtain ⟨p,hp⟩:∃p,p=L[k]:=⟨_,rfl⟩
  rw [←hp] at hq hok
  have HP:=aa hp
  clear hp
  obtain ⟨q0,q1⟩:=hq
  replace q0:=hx.keep q0
  replace q1:=hx.keep q1
  obtain ⟨pa,pc,hpe⟩:=hok.slice
  rw [hpe] at q1
  have Ac:=aa hok
  clear hok
  have Zw:=aa hpe
  have c0:=hx.keep h0
  clear hpe
  go_wp2_with fail
  go_at_call 75
  refine (OQ x p.1 _ g _ (by rw [←Zw];exact Ac.aj hx) (hx.keep h0)).mono ?_
  exact ER
 exact ES
theorem Cv (x:Int) (g:Nat) (sl:Value) (L:List (bC×Value)) (W:World) (h:jb kS No W sl L) (h0:W.cell? ⟨g,0,none⟩=some (.int .i64 x)):
  Calls Tryz.prog 74 #[sl,.func (.func 75) #[] #[.pointer (some ⟨g,0,none⟩)]] W (kz (∃(k:Nat) (hk:k < L.length),¬ze x L[k].1) W):=by
 go_enter Tryz.func74,Tryz.ntmps74
 go_wp2_with fail
 refine (L6 x g _ L _ h h0).mono ?_
 exact ET
theorem Jl (x:Int) (sl:Value) (L:LS) (W:World) (h:jb kS No W sl L):Calls Tryz.prog 32 #[.int .i64 x,sl] W (kz (∀p∈L,ze x p.1) W):=by
 have H:=aa h
 obtain ⟨a,c,rfl⟩:=h.slice
 clear h
 go_enter Tryz.func32,Tryz.ntmps32
 go_wp2_with fail
 have hx0:Ext No W (W.alloc (.cells #[.int .i64 x] 3)):=(Ext.refl _ _).alloc _
 refine (Cv x W.heap.size _ L _ (H.aj hx0) (cellOf (ah rfl) 0)).mono ?_
 rintro e1 w1 ⟨bb,rfl,hbb,hx1⟩
 cases bb with
 |true=>
  have qM:=aa (iG hbb)
  clear hbb
  go_wp2_with fail
  go_ret
  obtain ⟨k,hk,hb⟩:=qM.out
  exact aP (fun e=>hb (e _ (List.getElem_mem hk))) (hx0.af hx1)
 |false=>
  have qM:=aa (ig hbb)
  clear hbb
  go_wp2_with fail
  go_ret
  refine iw (fun p hp=>Classical.byContradiction fun hn=>?_) (hx0.af hx1)
  obtain ⟨k,hk,rfl⟩:=List.getElem_of_mem hp
  exact qM ⟨k,hk,hn⟩
set_option maxHeartbeats 1000000 in
theorem Ru (x:Int) (r:dS) (g1 k1 c1:Value) (W:World) (h:bN No W g1 k1 c1 r):
  Calls Tryz.prog 36 #[.int .i64 x,.agg #[.int .i64 r.gen.width,g1,.int .i64 r.kill.width,k1,c1]] W (kz (Af x r) W):=by
 have H:=aa h
 obtain ⟨ag,ng,cg,rfl⟩:=h.gen.shaped
 obtain ⟨ak,nk,ck,rfl⟩:=h.kill.shaped
 obtain ⟨ac,nc,cc,rfl⟩:=h.copies.shaped
 clear h
 go_enter Tryz.func36,Tryz.ntmps36
 go_wp2_with fail
 have hx0:Ext No W (W.alloc (.cells #[.int .i64 r.gen.width,.slice ag ng cg,.int .i64 r.kill.width,.slice ak nk ck,.slice ac nc cc] 47)):=(Ext.refl _ _).alloc _
 refine (qi r _ _ _ _ (H.aj hx0)).mono ?_
 rintro e1 w1 ⟨rfl,hx1⟩
 have hB:=hx1.blk (ah (w:=W) (o:= .cells #[.int .i64 r.gen.width,.slice ag ng cg,.int .i64 r.kill.width,.slice ak nk ck,.slice ac nc cc] 47) rfl) ax
 have HY:=aa (hx0.af hx1)
 have cB:=cellOf hB
 clear hx1 hB hx0
 cases hv:gu r with
 |false=>
  go_wp2_with fail
  go_ret
  exact aP (fun e=>by have:=e.1;rw [hv] at this;cases this) HY
 |true=>
  have HV:=aa hv
  clear hv
  obtain ⟨y,hy⟩:∃y,y=r.gen.width:=⟨_,rfl⟩
  rw [←hy] at cB
  have HP:=aa hy
  clear hy
  go_wp2_with fail
  go_ret
  exact ⟨_,rfl,⟨fun e=>⟨HV.out,HP.symm.trans (by simpa using e)⟩,fun h=>by have:=HP.out.trans h.2;simp [this]⟩,HY⟩
end Go.Proofs.YtmddchceacmopaaGreatDoor

namespace Go.Proofs.YtmddchceacmopaaGreatDoor
open Go Go.RowKit
theorem OT {Ld:LD} {k:Nat} (hk:k < Ld.length):qL (Ld.take (k+1))=qL (Ld.take k)+Ld[k].1.length:=by
 unfold qL
 exact D8
end Go.Proofs.YtmddchceacmopaaGreatDoor

namespace Go.Proofs.YtmddchceacmopaaGreatDoor
open Go Go.RowKit
theorem fM.list {M:Nat→Prop} {W:World} {so:Value} {w:Nat} {ms:List Nat} (h:fM M W so w ms):∃L:LS,jb kS M W so L∧L.map Prod.fst=ms.map (bJ w)∧L.length=ms.length:=by
 obtain ⟨⟨L,h1,h2⟩,_,_⟩:=h
 have e:=congrArg List.length h2
 simp only [List.length_map] at e
 exact ⟨L,⟨h1.row,h1.ok⟩,h2,e⟩
theorem jb.Mw {M:Nat→Prop} {W:World} {so:Value} {w:Nat} {ms:List Nat} {L:LS} (h:jb kS M W so L) (he:L.map Prod.fst=ms.map (bJ w)) (hw:w≤256) (hm:∀m∈ms,m < 2 ^ w):fM M W so w ms:=⟨⟨L,⟨h.row,h.ok⟩,he⟩,hw,hm⟩
theorem Ba {w:Nat} {ms:List Nat} {L:LS} (he:L.map Prod.fst=ms.map (bJ w)) (hw:w≤256) (hm:∀m∈ms,m < 2 ^ w) (p:bC×Value) (hp:p∈L):ze (w:Int) p.1:=by
 have h1:p.1∈ms.map (bJ w):=by rw [←he];exact List.mem_map.2 ⟨p,hp,rfl⟩
 obtain ⟨m,hm2,e⟩:=List.mem_map.1 h1
 rw [←e]
 exact ⟨dI hw (hm m hm2),rfl⟩
theorem Ht (M:Nat→Prop) (t:cK) (w s:Nat) (sg sk sc ss:Value) (W:World) (hw:t.w=w) (hM:∀b,M b→b < W.heap.size) (h:dF No W sg sk sc t) (hs:aG No W ss w s):
  Calls Tryz.prog 53 #[.agg #[.int .i64 (w:Int),sg,.int .i64 (w:Int),sk,sc],.agg #[.int .i64 (w:Int),ss]] W (iq M w (bL t s) W):=by
 subst hw;exact OU M t s sg sk sc ss W hM h hs
theorem fM.cells {M:Nat→Prop} {W:World} {so:Value} {w:Nat} {ms:List Nat} (h:fM M W so w ms) {i:Nat} (hi:i < ms.length):∃b off cap a c,so= .slice (some ⟨b,off,none⟩) ms.length cap∧
  (W.cell? ⟨b,off+i*2,none⟩=some (.int .i64 (w:Int))∧W.cell? ⟨b,off+i*2+1,none⟩=some (.slice a (nw w) c))∧Hid (aG M W (.slice a (nw w) c) w (dA ms i)):=by
 obtain ⟨b,off,cap,a,c,h1,_,_,h4,h5,h6⟩:=h.at hi
 exact ⟨b,off,cap,a,c,h1,⟨h4,h5⟩,aa (by rw [kI hi];exact h6)⟩
end Go.Proofs.YtmddchceacmopaaGreatDoor

namespace Go.Proofs.YtmddchceacmopaaGreatDoor
open Go Go.RowKit
def GA (X:Nat) (vd vt vb:Value):Nat→Prop:=fun b=>b≤X∨vd.ownBlock=some b∨vt.ownBlock=some b∨vb.ownBlock=some b
structure qc (tb:Nat) (W wr:World) (X:Nat) (cx:Array Value) (vd vt vb:Value) (Ld:LD) (Lt:LT) (Lb:LS):Prop where
 ext:Ext (At tb) W wr
 tape:bB wr tb
 bV:wr.heap[W.heap.size]? =some (.cells #[.int .i64 0,.slice none 0 0,.slice none 0 0,.slice none 0 0] 55 (0,0))
 dU:wr.heap[X]? =some (.cells cx 55 (0,0))
 d:cZ kD (GA X vd vt vb) wr (X+1) vd Ld
 t:cZ kT (GA X vd vt vb) wr (X+1) vt Lt
 b:cZ kS (GA X vd vt vb) wr (X+1) vb Lb
 dt:∀k,vd.ownBlock=some k→vt.ownBlock≠some k
 db:∀k,vd.ownBlock=some k→vb.ownBlock≠some k
 VJ:∀k,vt.ownBlock=some k→vb.ownBlock≠some k
 lt:tb < W.heap.size
 low:W.heap.size < X
section
variable {tb:Nat} {W wr w':World} {X:Nat} {cx:Array Value} {vd vt vb v':Value} {Ld:LD} {Lt:LT} {Lb:LS}
theorem qc.hM (h:qc tb W wr X cx vd vt vb Ld Lt Lb):∀b,GA X vd vt vb b→b < wr.heap.size:=fun b hb=>by
 rcases hb with hb|hb|hb|hb
 ·have:=lt_of_block h.dU;omega
 ·exact (h.d.lt b hb).2
 ·exact (h.t.lt b hb).2
 exact (h.b.lt b hb).2
theorem qc.step (h:qc tb W wr X cx vd vt vb Ld Lt Lb) (hx:Ext (At tb) wr w') (ht:bB w' tb):qc tb W w' X cx vd vt vb Ld Lt Lb:=by
 have h1:=h.lt
 have h2:=h.low
 have hA:∀i,i < wr.heap.size→At tb i→GA X vd vt vb i:=fun i _ e=> .inl (by unfold At at e;omega)
 exact ⟨h.ext.trans hx,ht,hx.blk h.bV (by unfold At;omega),hx.blk h.dU (by unfold At;omega),h.d.gG hx (fun i hi e=>by have:=(h.d.lt i hi).1;unfold At at e;omega) hA,h.t.gG hx (fun i hi e=>by have:=(h.t.lt i hi).1;unfold At at e;omega) hA,h.b.gG hx (fun i hi e=>by have:=(h.b.lt i hi).1;unfold At at e;omega) hA,h.dt,h.db,h.VJ,h1,h2⟩
theorem qc.aC (h:qc tb W wr X cx vd vt vb Ld Lt Lb) (hx:Ext No wr w'):qc tb W w' X cx vd vt vb Ld Lt Lb:=h.step hx.lM (h.tape.ext hx)
theorem qc.XU (h:qc tb W wr X cx vd vt vb Ld Lt Lb) {E:Nat} (hx:Ext (At E) wr w') (hX:X < E) (hd:vd.ownBlock≠some E) (ht:vt.ownBlock≠some E) (hb:vb.ownBlock≠some E) (TG:∀p∈Ld,kD.ok (fun b=>(GA X vd vt vb b∨vd.ownBlock=some b)∨b=E) wr p) (hLt:∀p∈Lt,kT.ok (fun b=>(GA X vd vt vb b∨vt.ownBlock=some b)∨b=E) wr p) (CE:∀p∈Lb,kS.ok (fun b=>(GA X vd vt vb b∨vb.ownBlock=some b)∨b=E) wr p):qc tb W w' X cx vd vt vb Ld Lt Lb:=by
 have h1:=h.lt
 have h2:=h.low
 exact ⟨h.ext.aJ hx (fun i hi e=>by unfold At at e;omega),h.tape.gM hx (fun i hi e=>by unfold At at e;omega),hx.blk h.bV (by unfold At;omega),hx.blk h.dU (by unfold At;omega),
  ⟨aZ h.d.own hx (fun k hk e=>by unfold At at e;exact hd (e▸hk)),fun p hp=>kD.mono (kD.ext (TG p hp) hx (fun i _ e=> .inr e)) (fun i _ e=> .inl e)⟩,
  ⟨aZ h.t.own hx (fun k hk e=>by unfold At at e;exact ht (e▸hk)),fun p hp=>kT.mono (kT.ext (hLt p hp) hx (fun i _ e=> .inr e)) (fun i _ e=> .inl e)⟩,
  ⟨aZ h.b.own hx (fun k hk e=>by unfold At at e;exact hb (e▸hk)),fun p hp=>kS.mono (kS.ext (CE p hp) hx (fun i _ e=> .inr e)) (fun i _ e=> .inl e)⟩,h.dt,h.db,h.VJ,h1,h2⟩
theorem qc.Xv (h:qc tb W wr X cx vd vt vb Ld Lt Lb) (j:Nat) (u:Value):qc tb W (wr.setCell ⟨X,j,none⟩ u) X (cx.setIfInBounds j u) vd vt vb Ld Lt Lb:=by
 have h1:=h.lt
 have h2:=h.low
 have hx:Ext (At X) wr (wr.setCell ⟨X,j,none⟩ u):=(Ext.refl (At X) _).setAt _ _
 have hA:∀i,i < wr.heap.size→At X i→GA X vd vt vb i:=fun i _ e=> .inl (by unfold At at e;omega)
 exact ⟨h.ext.aJ hx (fun i hi e=>by unfold At at e;omega),h.tape.gM hx (fun i hi e=>by unfold At at e;omega),hx.blk h.bV (by unfold At;omega),az h.dU,h.d.gG hx (fun i hi e=>by have:=(h.d.lt i hi).1;unfold At at e;omega) hA,h.t.gG hx (fun i hi e=>by have:=(h.t.lt i hi).1;unfold At at e;omega) hA,h.b.gG hx (fun i hi e=>by have:=(h.b.lt i hi).1;unfold At at e;omega) hA,h.dt,h.db,h.VJ,h1,h2⟩
theorem qc.Ug {p:(List Int×Value)} (h:qc tb W wr X cx vd vt vb Ld Lt Lb) (hp:kD.ok (GA X vd vt vb) wr p) (hown:w'.ownsRow (X+1) kD.T kD.s v' (Ld.length+1) (Ld.flatMap kD.cells++kD.cells p)) (hg:wr.grownBy w' vd.ownBlock) (hv:v'.ownBlock=vd.ownBlock∨v'.ownBlock=some wr.heap.size):
  qc tb W w' X cx v' vt vb (Ld++[p]) Lt Lb:=by
 have h1:=h.lt
 have h2:=h.low
 have hE:Ext (fun k=>vd.ownBlock=some k) wr w':=(Ext.refl _ wr).grown hg (fun k hk _=>hk)
 have hlo:∀i,vd.ownBlock=some i→X+1≤i:=fun i hi=>(h.d.lt i hi).1
 have I4:∀i,i < wr.heap.size→(GA X v' vt vb) i→GA X vd vt vb i:=fun i hi e=>by
  rcases e with e|e|e|e
  ·exact .inl e
  ·rcases hv with hv|hv
   ·rw [hv] at e;exact .inr (.inl e)
   rw [hv] at e;simp only [Option.some.injEq] at e;omega
  ·exact .inr (.inr (.inl e))
  exact .inr (.inr (.inr e))
 have ZI:∀i,vd.ownBlock=some i→(GA X v' vt vb) i∨¬i < w'.heap.size∨True:=fun _ _=> .inr (.inr trivial)
 clear ZI
 have VK:∀{β:Type} {K:EK β} {v:Value} {L:List β},cZ K (GA X vd vt vb) wr (X+1) v L→(∀i,v.ownBlock=some i→¬vd.ownBlock=some i)→cZ K (GA X v' vt vb) w' (X+1) v L:=fun hL hne=>by
  have hL2:cZ _ (fun b=>(GA X v' vt vb) b∨vd.ownBlock=some b) wr (X+1) _ _:=hL.mono (fun i hi e=>by
   rcases e with e|e
   ·exact I4 i hi e
   exact .inr (.inl e))
  exact (hL2.gG hE hne (fun i _ e=> .inr e)).mono (fun i _ e=> .inl e)
 have hown2:cZ kD (GA X vd vt vb) w' (X+1) v' (Ld++[p]):=h.d.app (E:=fun k=>vd.ownBlock=some k) (kD.mono hp (fun i _ e=>by
  rcases e with e|e
  ·exact e
  exact .inr (.inl e))) hown hE (fun _ e=>e) (hv.imp id (fun hv k hk=>by rw [hv] at hk;simp only [Option.some.injEq] at hk;omega))
 have hown3:cZ kD (GA X v' vt vb) w' (X+1) v' (Ld++[p]):=⟨hown2.own,fun q hq=>kD.mono (hown2.ok q hq) (fun i _ e=>by
  rcases e with e|e
  ·rcases e with e|e|e|e
   ·exact .inl (.inl e)
   ·exact .inr e
   ·exact .inl (.inr (.inr (.inl e)))
   exact .inl (.inr (.inr (.inr e)))
  exact .inr e)⟩
 exact ⟨h.ext.aJ hE (fun i hi e=>by have:=hlo i e;omega),h.tape.gM hE (fun i hi e=>by have:=hlo i e;omega),hE.blk h.bV (fun e=>by have:=hlo _ e;omega),hE.blk h.dU (fun e=>by have:=hlo _ e;omega),hown3,VK h.t (fun i hi e=>h.dt i e hi),VK h.b (fun i hi e=>h.db i e hi),(fun k hk e=>by
  rcases hv with hv|hv
  ·rw [hv] at hk;exact h.dt k hk e
  ·rw [hv] at hk;simp only [Option.some.injEq] at hk;have:=(h.t.lt k e).2;omega),(fun k hk e=>by
  rcases hv with hv|hv
  ·rw [hv] at hk;exact h.db k hk e
  rw [hv] at hk;simp only [Option.some.injEq] at hk;have:=(h.b.lt k e).2;omega),h.VJ,h1,h2⟩
theorem qc.acp {p:(dS×Value×Value×Value)} (h:qc tb W wr X cx vd vt vb Ld Lt Lb) (hp:kT.ok (GA X vd vt vb) wr p) (hown:w'.ownsRow (X+1) kT.T kT.s v' (Lt.length+1) (Lt.flatMap kT.cells++kT.cells p)) (hg:wr.grownBy w' vt.ownBlock) (hv:v'.ownBlock=vt.ownBlock∨v'.ownBlock=some wr.heap.size):
  qc tb W w' X cx vd v' vb Ld (Lt++[p]) Lb:=by
 have h1:=h.lt
 have h2:=h.low
 have hE:Ext (fun k=>vt.ownBlock=some k) wr w':=(Ext.refl _ wr).grown hg (fun k hk _=>hk)
 have hlo:∀i,vt.ownBlock=some i→X+1≤i:=fun i hi=>(h.t.lt i hi).1
 have I4:∀i,i < wr.heap.size→(GA X vd v' vb) i→GA X vd vt vb i:=fun i hi e=>by
  rcases e with e|e|e|e
  ·exact .inl e
  ·exact .inr (.inl e)
  ·rcases hv with hv|hv
   ·rw [hv] at e;exact .inr (.inr (.inl e))
   rw [hv] at e;simp only [Option.some.injEq] at e;omega
  exact .inr (.inr (.inr e))
 have ZI:∀i,vt.ownBlock=some i→(GA X vd v' vb) i∨¬i < w'.heap.size∨True:=fun _ _=> .inr (.inr trivial)
 clear ZI
 have VK:∀{β:Type} {K:EK β} {v:Value} {L:List β},cZ K (GA X vd vt vb) wr (X+1) v L→(∀i,v.ownBlock=some i→¬vt.ownBlock=some i)→cZ K (GA X vd v' vb) w' (X+1) v L:=fun hL hne=>by
  have hL2:cZ _ (fun b=>(GA X vd v' vb) b∨vt.ownBlock=some b) wr (X+1) _ _:=hL.mono (fun i hi e=>by
   rcases e with e|e
   ·exact I4 i hi e
   exact .inr (.inr (.inl e)))
  exact (hL2.gG hE hne (fun i _ e=> .inr e)).mono (fun i _ e=> .inl e)
 have hown2:cZ kT (GA X vd vt vb) w' (X+1) v' (Lt++[p]):=h.t.app (E:=fun k=>vt.ownBlock=some k) (kT.mono hp (fun i _ e=>by
  rcases e with e|e
  ·exact e
  exact .inr (.inr (.inl e)))) hown hE (fun _ e=>e) (hv.imp id (fun hv k hk=>by rw [hv] at hk;simp only [Option.some.injEq] at hk;omega))
 have hown3:cZ kT (GA X vd v' vb) w' (X+1) v' (Lt++[p]):=⟨hown2.own,fun q hq=>kT.mono (hown2.ok q hq) (fun i _ e=>by
  rcases e with e|e
  ·rcases e with e|e|e|e
   ·exact .inl (.inl e)
   ·exact .inl (.inr (.inl e))
   ·exact .inr e
   exact .inl (.inr (.inr (.inr e)))
  exact .inr e)⟩
 exact ⟨h.ext.aJ hE (fun i hi e=>by have:=hlo i e;omega),h.tape.gM hE (fun i hi e=>by have:=hlo i e;omega),hE.blk h.bV (fun e=>by have:=hlo _ e;omega),hE.blk h.dU (fun e=>by have:=hlo _ e;omega),VK h.d (fun i hi e=>h.dt i hi e),hown3,VK h.b (fun i hi e=>h.VJ i e hi),(fun k hk e=>by
  rcases hv with hv|hv
  ·rw [hv] at e;exact h.dt k hk e
  ·rw [hv] at e;simp only [Option.some.injEq] at e;have:=(h.d.lt k hk).2;omega),h.db,(fun k hk e=>by
  rcases hv with hv|hv
  ·rw [hv] at hk;exact h.VJ k hk e
  rw [hv] at hk;simp only [Option.some.injEq] at hk;have:=(h.b.lt k e).2;omega),h1,h2⟩
theorem qc.Xr {p:(bC×Value)} (h:qc tb W wr X cx vd vt vb Ld Lt Lb) (hp:kS.ok (GA X vd vt vb) wr p) (hown:w'.ownsRow (X+1) kS.T kS.s v' (Lb.length+1) (Lb.flatMap kS.cells++kS.cells p)) (hg:wr.grownBy w' vb.ownBlock) (hv:v'.ownBlock=vb.ownBlock∨v'.ownBlock=some wr.heap.size):
  qc tb W w' X cx vd vt v' Ld Lt (Lb++[p]):=by
 have h1:=h.lt
 have h2:=h.low
 have hE:Ext (fun k=>vb.ownBlock=some k) wr w':=(Ext.refl _ wr).grown hg (fun k hk _=>hk)
 have hlo:∀i,vb.ownBlock=some i→X+1≤i:=fun i hi=>(h.b.lt i hi).1
 have I4:∀i,i < wr.heap.size→(GA X vd vt v') i→GA X vd vt vb i:=fun i hi e=>by
  rcases e with e|e|e|e
  ·exact .inl e
  ·exact .inr (.inl e)
  ·exact .inr (.inr (.inl e))
  rcases hv with hv|hv
  ·rw [hv] at e;exact .inr (.inr (.inr e))
  rw [hv] at e;simp only [Option.some.injEq] at e;omega
 have ZI:∀i,vb.ownBlock=some i→(GA X vd vt v') i∨¬i < w'.heap.size∨True:=fun _ _=> .inr (.inr trivial)
 clear ZI
 have VK:∀{β:Type} {K:EK β} {v:Value} {L:List β},cZ K (GA X vd vt vb) wr (X+1) v L→(∀i,v.ownBlock=some i→¬vb.ownBlock=some i)→cZ K (GA X vd vt v') w' (X+1) v L:=fun hL hne=>by
  have hL2:cZ _ (fun b=>(GA X vd vt v') b∨vb.ownBlock=some b) wr (X+1) _ _:=hL.mono (fun i hi e=>by
   rcases e with e|e
   ·exact I4 i hi e
   exact .inr (.inr (.inr e)))
  exact (hL2.gG hE hne (fun i _ e=> .inr e)).mono (fun i _ e=> .inl e)
 have hown2:cZ kS (GA X vd vt vb) w' (X+1) v' (Lb++[p]):=h.b.app (E:=fun k=>vb.ownBlock=some k) (kS.mono hp (fun i _ e=>by
  rcases e with e|e
  ·exact e
  exact .inr (.inr (.inr e)))) hown hE (fun _ e=>e) (hv.imp id (fun hv k hk=>by rw [hv] at hk;simp only [Option.some.injEq] at hk;omega))
 have hown3:cZ kS (GA X vd vt v') w' (X+1) v' (Lb++[p]):=⟨hown2.own,fun q hq=>kS.mono (hown2.ok q hq) (fun i _ e=>by
  rcases e with e|e
  ·rcases e with e|e|e|e
   ·exact .inl (.inl e)
   ·exact .inl (.inr (.inl e))
   ·exact .inl (.inr (.inr (.inl e)))
   exact .inr e
  exact .inr e)⟩
 exact ⟨h.ext.aJ hE (fun i hi e=>by have:=hlo i e;omega),h.tape.gM hE (fun i hi e=>by have:=hlo i e;omega),hE.blk h.bV (fun e=>by have:=hlo _ e;omega),hE.blk h.dU (fun e=>by have:=hlo _ e;omega),VK h.d (fun i hi e=>h.db i hi e),VK h.t (fun i hi e=>h.VJ i hi e),hown3,h.dt,(fun k hk e=>by
  rcases hv with hv|hv
  ·rw [hv] at e;exact h.db k hk e
  ·rw [hv] at e;simp only [Option.some.injEq] at e;have:=(h.d.lt k hk).2;omega),(fun k hk e=>by
  rcases hv with hv|hv
  ·rw [hv] at e;exact h.VJ k hk e
  rw [hv] at e;simp only [Option.some.injEq] at e;have:=(h.t.lt k hk).2;omega),h1,h2⟩
end
structure TH (N w i:Nat) (Ld:LD) (Lt:LT) (Lb:LS):Prop where
 ld:Ld.length=i
 lt:Lt.length=i
 lb:Lb.length=i
 d:∀p∈Ld,oI p.1 N∧p.1.length≤3
 t:∀p∈Lt,Af w p.1
 b:∀p∈Lb,ze w p.1
theorem TH.nil (N w:Nat):TH N w 0 [] [] []:=⟨rfl,rfl,rfl,fun _ h=>(by cases h),fun _ h=>(by cases h),fun _ h=>(by cases h)⟩
theorem TH.snoc {N w i:Nat} {Ld:LD} {Lt:LT} {Lb:LS} {pd:List Int×Value} {pt:dS×Value×Value×Value} {pb:bC×Value} (h:TH N w i Ld Lt Lb) (h1:oI pd.1 N∧pd.1.length≤3) (h2:Af w pt.1) (h3:ze w pb.1):TH N w (i+1) (Ld++[pd]) (Lt++[pt]) (Lb++[pb]):=by
 refine ⟨by simp [h.ld],by simp [h.lt],by simp [h.lb],fun p hp=>?_,fun p hp=>?_,fun p hp=>?_⟩
 ·rcases List.mem_append.1 hp with hp|hp
  ·exact h.d p hp
  rw [List.mem_singleton.1 hp];exact h1
 ·rcases List.mem_append.1 hp with hp|hp
  ·exact h.t p hp
  rw [List.mem_singleton.1 hp];exact h2
 rcases List.mem_append.1 hp with hp|hp
 ·exact h.b p hp
 rw [List.mem_singleton.1 hp];exact h3
theorem Nc {k:Nat}:∀(Ld:LD),(∀p∈Ld,p.1.length≤k)→qL Ld≤Ld.length*k
 |[],_=>Nat.zero_le _
 |p::Ld,h=>by
  have h1:=Nc Ld (fun q hq=>h q (List.mem_cons_of_mem _ hq))
  have h2:=h p (List.mem_cons_self ..)
  unfold qL at*
  rw [List.map_cons,List.sum_cons,List.length_cons,Nat.succ_mul]
  omega
theorem TH.vs {N w:Nat} {Ld:LD} {Lt:LT} {Lb:LS} (h:TH N w N Ld Lt Lb) (h1:1≤N) (h2:N≤100) (hw:w≤256):VS (w:Int) Ld Lt Lb:=
 ⟨by omega,by rw [h.ld];omega,by rw [h.ld,h.lt],by rw [h.ld,h.lb],fun p hp=>by rw [h.ld];exact (h.d p hp).1,by have:=Nc (k:=3) Ld (fun p hp=>(h.d p hp).2);rw [h.ld] at this;omega,h.b,h.t⟩
def XV (tb n:Nat) (W:World) (e:Ending) (w':World):Prop:=
 ∃(S:mU) (vd vt vb:Value),e= .returned (.agg #[.int .i64 (S.w:Int),vd,vt,vb])∧S.w≤4∧S.deps.length≤n∧Hid (ja (Lo W.heap.size) w' vd vt vb S)∧bB w' tb∧Ext (At tb) W w'
end Go.Proofs.YtmddchceacmopaaGreatDoor

namespace Go.Proofs.YtmddchceacmopaaGreatDoor
open Go Go.RowKit
theorem ow {p:Prop} {b:Bool} (h:b=true↔p) (hp:¬p):b=false:=by
 cases b with
 |true=>exact absurd (h.1 rfl) hp
 |false=>rfl
theorem mM {p:Prop} {b:Bool} (h:b=true↔p) (hp:p):b=true:=h.2 hp
set_option maxRecDepth 100000 in
set_option maxHeartbeats 4000000 in
theorem lT (sl:Value) (l:List Int) (n:Int) (W:World) (h:Ints No W .i64 sl l):
  Calls Tryz.prog 96 #[sl,.int .i64 n] W (kz (oI l n) W):=by
 have H:=aa h
 obtain ⟨a,cap,rfl⟩:=Row.slice h
 have hlen:=h.2.1
 clear h
 go_enter Tryz.func96,Tryz.ntmps96
 go_wp2_with fail
 go_loopw [5] (fun i wr=>∃k:Nat,k≤l.length∧i= .int .i64 k∧Hid (Ext No W wr)∧Hid (∀j (hj:j < l.length),j < k→0≤l[j]∧l[j] < n∧(0 < j→l[j - 1]'(by omega) < l[j]))) (fun i _=>l.length - (intOf i).toNat)
 case atStart=>exact mY
 obtain ⟨k,hk,rfl,hx,hm⟩:=hrel
 rename World=>wr
 by_cases hlt:k < l.length
 ·have hlz:(k:Int) < (l.length:Int):=by omega
  obtain ⟨b,off,cap',hsl,hb1,_,hcell⟩:=H.at hlt
  simp only [Value.slice.injEq] at hsl
  obtain ⟨rfl,_,rfl⟩:=hsl
  have q0:=hx.keep (hcell k hlt)
  have HK:=aa hcell
  clear hcell
  obtain ⟨y,hy⟩:∃y,y=l[k]:=⟨_,rfl⟩
  rw [←hy] at q0
  have HY:=aa hy
  clear hy hb1
  by_cases h1:y < 0
  ·go_upto_region 4 with (fail)
   refine uW (fun w'=>Ext No wr w') aS fun hHeld=>?_
   refine uO [0,1,2,3,4,5,6,7,8,9,10,11,12,13,14,15,16,17,18,19,20,21,22,23,24,25,26,27,28] ?_
   iterate 6 refine uT ?_ (hy:=lK)
   iterate 6 refine uS ?_
   iterate 2 refine uT ?_
   iterate 14 refine uS ?_
   refine uT ?_
   refine uZ ?_
   refine uD ?_
   have eX:Ext No wr _:=hHeld
   go_wp2_with fail
   go_ret
   exact aP (fun e=>by have:=(e k hlt).1;rw [←HY] at this;omega) (hx.af eX)
  by_cases h2:n≤y
  ·go_upto_region 4 with (fail)
   refine uW (fun w'=>Ext No wr w') aS fun hHeld=>?_
   refine uO [0,1,2,3,4,5,6,7,8,9,10,11,12,13,14,15,16,17,18,19,20,21,22,23,24,25,26,27,28] ?_
   iterate 14 refine uT ?_ (hy:=lK)
   iterate 14 refine uS ?_
   refine uT ?_
   refine uZ ?_
   refine uD ?_
   have eX:Ext No wr _:=hHeld
   go_wp2_with fail
   go_ret
   exact aP (fun e=>by have:=(e k hlt).2.1;rw [←HY] at this;omega) (hx.af eX)
  by_cases h3:k=0
  ·subst h3
   rw [Nat.add_zero] at q0
   go_upto_region 4 with (fail)
   refine uW (fun w'=>Ext No wr w') aS fun hHeld=>?_
   refine uO [0,1,2,3,4,5,6,7,8,9,10,11,12,13,14,15,16,17,18,19,20,21,22,23,24,25,26,27,28] ?_
   iterate 17 refine uT ?_ (hy:=lK)
   iterate 10 refine uS ?_
   iterate 2 refine uT ?_
   refine uZ ?_
   refine uD ?_
   have eX:Ext No wr _:=hHeld
   go_wp2_with fail
   go_roundw
   case rel=>exact ⟨1,by omega,by go_num,hx.af eX,aa (fun j hj hjk=>by
    obtain rfl:j=0:=by omega
    rw [←HY]
    exact ⟨by omega,by omega,fun e=>absurd e (Nat.lt_irrefl _)⟩)⟩
   case measure=>simp [intOf];omega
  have hk1:k - 1 < l.length:=by omega
  have q1:=hx.keep (HK (k - 1) hk1)
  obtain ⟨z,hz⟩:∃z,z=l[k - 1]:=⟨_,rfl⟩
  rw [←hz] at q1
  have HZ:=aa hz
  clear hz
  have hpos:(0:Int) < (k:Int):=by omega
  have aaY:0 < k:=by omega
  have hlm:IntKind.i64.wrap ((k:Int) - 1)=((k - 1:Nat):Int):=by rw [IntWalk.i64_in _ (by omega)];omega
  have hlp:0≤((k - 1:Nat):Int):=by omega
  have hlq:((k - 1:Nat):Int) < (l.length:Int):=by omega
  by_cases h4:y≤z
  ·go_upto_region 4 with (fail)
   refine uW (fun w'=>Ext No wr w') aS fun hHeld=>?_
   refine uO [0,1,2,3,4,5,6,7,8,9,10,11,12,13,14,15,16,17,18,19,20,21,22,23,24,25,26,27,28] ?_
   iterate 21 refine uT ?_ (hy:=lK)
   iterate 4 refine uT ?_ (hy:=F7)
   iterate 4 refine uT ?_ (hy:=lK)
   refine uZ ?_
   refine uD ?_
   have eX:Ext No wr _:=hHeld
   go_wp2_with fail
   go_ret
   exact aP (fun e=>by have:=(e k hlt).2.2 (by omega);rw [←HY,←HZ] at this;omega) (hx.af eX)
  go_upto_region 4 with (fail)
  refine uW (fun w'=>Ext No wr w') aS fun hHeld=>?_
  refine uO [0,1,2,3,4,5,6,7,8,9,10,11,12,13,14,15,16,17,18,19,20,21,22,23,24,25,26,27,28] ?_
  iterate 21 refine uT ?_ (hy:=lK)
  iterate 4 refine uT ?_ (hy:=F7)
  iterate 4 refine uT ?_ (hy:=lK)
  refine uZ ?_
  refine uD ?_
  have eX:Ext No wr _:=hHeld
  go_wp2_with fail
  go_roundw
  case rel=>exact ⟨k+1,by omega,by go_num,hx.af eX,aa (fun j hj hjk=>by
   by_cases e:j=k
   ·subst e
    rw [←HY,←HZ]
    exact ⟨by omega,by omega,fun _=>by omega⟩
   exact hm j hj (by omega))⟩
  case measure=>simp [intOf];omega
 have hge:¬(k:Int) < (l.length:Int):=by omega
 exact F9


import Derived.Lib.AppendZerosOnto
import Derived.Lib.Overlaps
import Derived.Laws.NewBlocks
import Derived.Test.YtmddchceacmopaaGreatDoorE17
set_option linter.unusedVariables false
set_option linter.unusedSimpArgs false
namespace Go.Proofs.YtmddchceacmopaaGreatDoor
open Go Go.RowKit
theorem Df {p:Prop} (h:p:=by
 exact List.take_left' (by simp only [List.length_append,List.length_take,List.length_drop,Cc,hxl];omega)):p:=h
theorem Dg {p:Prop} (h:p:=by
 refine hHc 12 fun K hK=>?_
 ((have cS:=cellOf hE.out);(have fS:=aH hE.out);go_simp;(clear cS fS))
 refine uK hK (VR (show Ext No V _ from hHeld) wE) ?_
 clear hK K hHeld
 intro hHeld
 refine uA 13 ?_
 refine uD ?_
 have eX:Ext No V _:=hHeld
 go_wp2_with fail
 go_meet
 exact ⟨gE,d1,e1,d2,e2,d3,n3,e3,rfl,rfl,eX,(az (j:=4) (az (j:=3) (az (j:=2) (az (j:=1) (az (j:=0) hE))))).trans rfl,(hS.ext ((((((Ext.refl (At gE) v2).setAt 0 _).setAt 1 _).setAt 2 _).setAt 3 _).setAt 4 _) (fun i _ e=> .inr e)).mono (fun i _ e=> .inl e),wE⟩):p:=h
def rW (base:Nat) (v:Value) (N i:Nat) (xs us:List Value) (W:World) (e:Ending) (w':World):Prop:=
 ∃(g' c':Nat),e= .returned (.slice (some ⟨g',0,none⟩) (N+1) c')∧Hid (w'.ownsRow base 49 6 (.slice (some ⟨g',0,none⟩) (N+1) c') (N+1) (xs.take (i*6)++us++xs.drop (i*6)))∧Hid (Ext (fun k=>v.ownBlock=some k) W w')∧(v.ownBlock=some g'∨W.heap.size≤g')
theorem adI {w:World} {base:Nat} {v:Value} {n:Nat} {xs:List Value} (h:w.ownsRow base 49 6 v n xs) (hn:n≠0):∃g cap,v= .slice (some ⟨g,0,none⟩) n cap:=by
 exact Dh
set_option maxRecDepth 100000 in
set_option maxHeartbeats 4000000 in
theorem Ll (base n vb:Nat) (v:Value) (xs us:List Value) (W:World) (h:W.ownsRow base 49 6 v n xs) (hb:base≤W.heap.size) (hn2:n≤1000) (hu:W.heap[vb]? =some (.cells us.toArray 49 (0,0))) (Cc:us.length=6) (hu1:∀u∈us,u.oneCell'=true):
  Calls Tryz.prog 120 #[v,.int .i64 (n:Int),.slice (some ⟨vb,0,none⟩) 1 1] W (rW base v n n xs us W):=by
 obtain ⟨iA,um,rC,hA1,hA2⟩:=info_parts Am
 have hxl:=h.1
 have HO:=aa h
 have HU:=aa (show Row No W 6 (.slice (some ⟨vb,0,none⟩) 1 1) 1 us from Row.block (cs:=us.toArray) hu (by simpa using Cc) ax (by omega))
 have hcase:(v= .slice none 0 0∧n=0)∨∃g cap,v= .slice (some ⟨g,0,none⟩) n cap∧n≤cap∧cap≤9223372036854775807:=by
  rcases h.2 with ⟨e,h0⟩|⟨g,cap,_,e,_⟩
  ·exact .inl ⟨e,h0⟩
  subst e
  have:=(Row.bG (M:=No) h (fun _ _ x=>x)).caps
  exact .inr ⟨g,cap,rfl,this⟩
 clear h
 rcases hcase with ⟨rfl,rfl⟩|⟨g,cap,rfl,hc1,hc2⟩
 ·go_enter Tryz.func120,Tryz.ntmps120
  go_wp2_with (at_builtin;(refine bE _ rfl (.tmp 23) (.tmp 24) 40 rfl base 49 iA _ 6 96 Tryz.underlying40 um rC hA1 hA2 rfl (by omega) (.slice none 0 0) 0 xs rfl HO.out No (some ⟨vb,0,none⟩) 1 1 us rfl HU.out hu1 (by omega) (by omega) hb ?_);(intro v9 w9 hown1 hg1 hv1);(have hsh:=adI hown1 (by omega));(obtain ⟨g9,c9,rfl⟩:=hsh))
  go_ret
  have e:xs=[]:=List.eq_nil_of_length_eq_zero (by rw [hxl])
  subst e
  exact ⟨g9,c9,rfl,aa (by simpa using hown1),(Ext.refl _ W).grown hg1 (fun k hk _=>hk),hv1.imp (fun e=>e.symm) (fun e=>Nat.le_of_eq (Option.some.inj e).symm)⟩
 have b1:(0:Int)≤(n:Int):=by omega
 have b2:(n:Int)≤(cap:Int):=by omega
 go_enter Tryz.func120,Tryz.ntmps120
 go_wp2_with (at_builtin;(refine bE _ rfl (.tmp 23) (.tmp 24) 40 rfl base 49 iA _ 6 96 Tryz.underlying40 um rC hA1 hA2 rfl (by omega) (.slice (some ⟨g,0,none⟩) n cap) n xs rfl HO.out No (some ⟨vb,0,none⟩) 1 1 us rfl HU.out hu1 (by omega) (by omega) hb ?_);(intro v9 w9 hown1 hg1 hv1);(have hsh:=adI hown1 (by omega));(obtain ⟨g9,c9,rfl⟩:=hsh))
 all_goals go_ret
 all_goals (have e1:xs.take (n*6)=xs:=List.take_of_length_le (by omega))
 all_goals (have e2:xs.drop (n*6)=[]:=List.drop_eq_nil_of_le (by omega))
 all_goals exact ⟨g9,c9,rfl,aa (by rw [e1,e2,List.append_nil];exact hown1),(Ext.refl _ W).grown hg1 (fun k hk _=>hk),hv1.imp (fun e=>e.symm) (fun e=>Nat.le_of_eq (Option.some.inj e).symm)⟩
theorem Q0 {l cs:List Value} {o k:Nat} (h:o≤l.length) (hk:k≤o):(l.take o++(cs++l.drop (o+cs.length))).take k=l.take k:=by
 rw [List.take_append_of_le_length (by rw [List.length_take];omega),List.take_take,Nat.min_eq_left hk]
theorem Uo {l cs:List Value} {o:Nat} (h:o≤l.length):(l.take o++(cs++l.drop (o+cs.length))).take (o+cs.length)=l.take o++cs:=by
 rw [←List.append_assoc]
 exact List.take_left' (by rw [List.length_append,List.length_take,Nat.min_eq_left h])
theorem rM {l cs:List Value} {o:Nat} (h:o+cs.length≤l.length):(l.take o++(cs++l.drop (o+cs.length))).length=l.length:=by
 simp only [List.length_append,List.length_take,List.length_drop];omega
theorem Oe {cur xs us:List Value} {n i:Nat} (hxl:xs.length=n*6) (Cc:us.length=6) (hi:i < n) (ht:cur.take (n*6)=xs) (hc:(i+1)*6≤cur.length):
  (((cur.take ((i+1)*6)++(xs.drop (i*6)++cur.drop ((i+1)*6+(xs.drop (i*6)).length))).take (i*6)++(us++(cur.take ((i+1)*6)++(xs.drop (i*6)++cur.drop ((i+1)*6+(xs.drop (i*6)).length))).drop (i*6+us.length))).toArray).toList.take ((n+1)*6)=xs.take (i*6)++us++xs.drop (i*6):=by
 have h1:(cur.take ((i+1)*6)++(xs.drop (i*6)++cur.drop ((i+1)*6+(xs.drop (i*6)).length))).take (i*6)=xs.take (i*6):=by
  rw [Q0 hc (by omega),←ht,List.take_take,Nat.min_eq_left (by omega)]
 have h2:(cur.take ((i+1)*6)++(xs.drop (i*6)++cur.drop ((i+1)*6+(xs.drop (i*6)).length))).drop (i*6+us.length)=xs.drop (i*6)++cur.drop ((i+1)*6+(xs.drop (i*6)).length):=
  List.drop_left' (by rw [List.length_take,Cc,Nat.min_eq_left hc];omega)
 rw [h1,h2]
 show List.take _ (_++(us++(xs.drop (i*6)++_)))=_
 rw [←List.append_assoc us,←List.append_assoc,←List.append_assoc]
 exact Df
theorem wV {P:Program} {w:World} (dT sT ty elem:TypeId) (k:Nat) (hu:P.underlying dT=some (.slice elem)) (hsz:(P.info? elem).map (·.size)=some k)
  (g off dLen dCap:Nat) (ad:Addr) (sLen sCap:Nat) (cur:List Value) (t:TypeId) (hg:w.heap[g]? =some (.cells cur.toArray t (0,0))) (cs:List Value) (hn:cs.length=Nat.min sLen dLen*k)
  (hsrc:∀j v,cs[j]? =some v→w.cell? (ad.add j)=some v) (hfit:off+cs.length≤cur.length) (h1:∀v∈cs,v.oneCell'=true):
  ∃w',(Builtin.copy_ #[dT,sT] ty #[.slice (some ⟨g,off,none⟩) dLen dCap,.slice (some ad) sLen sCap]).run P w= .ok (goInt (Nat.min sLen dLen)) w'∧Hid (w'.heap[g]? =some (.cells (cur.take off++(cs++cur.drop (off+cs.length))).toArray t (0,0)))∧Hid (Ext (At g) w w'):=by
 have hrun:=oH (P:=P) w dT sT ty elem k g off dLen dCap ad sLen sCap cur.toArray t cs hu hsz hg hn hsrc (by simpa using hfit) h1
 exact ⟨_,hrun,aa (by simpa using setRow_heap w g _ _ t _ hg),aa ⟨rfl,rfl,rfl,by simp [World.setRow],fun i hi hne=>setRow_other w g i _ (fun e=>hne e)⟩⟩
set_option maxRecDepth 100000 in
set_option maxHeartbeats 8000000 in
theorem JN (base g n cap i vb:Nat) (xs us:List Value) (W:World) (h:W.ownsRow base 49 6 (.slice (some ⟨g,0,none⟩) n cap) n xs) (hi:i < n) (hn2:n≤1000) (hroom:n+1≤cap) (hone:∀u∈xs,u.oneCell'=true) (hu:W.heap[vb]? =some (.cells us.toArray 49 (0,0))) (Cc:us.length=6) (hu1:∀u∈us,u.oneCell'=true) (hne:vb≠g):
  Calls Tryz.prog 120 #[.slice (some ⟨g,0,none⟩) n cap,.int .i64 (i:Int),.slice (some ⟨vb,0,none⟩) 1 1] W (rW base (.slice (some ⟨g,0,none⟩) n cap) n i xs us W):=by
 obtain ⟨iA,um,rC,hA1,hA2⟩:=info_parts Am
 have hxl:=h.1
 have Qd:=aa hone
 obtain ⟨cur,hg,hbase,hcm,hcs,htake⟩:∃cur:List Value,W.heap[g]? =some (.cells cur.toArray 49 (0,0))∧base≤g∧cap≤maxLen∧cur.length=cap*6∧cur.take (n*6)=xs:=by
  rcases h.2 with ⟨h3,_⟩|⟨g',cap',cur,h3,hb,hg',hnc,hcm,hcs,htake⟩
  ·simp at h3
  simp only [Value.slice.injEq,Option.some.injEq,Addr.mk.injEq,and_true,true_and] at h3
  obtain ⟨rfl,rfl⟩:=h3
  exact ⟨cur.toList,by simpa using hg',hb,hcm,by simpa using hcs,htake⟩
 have hcap2:cap≤9223372036854775807:=hcm
 have hmul:n*6+6≤cap*6:=by omega
 have TQ:=aa (And.intro hcs htake)
 have b0:(0:Int)≤(i:Int):=by omega
 have b1:(i:Int)≤(n:Int):=by omega
 have b2:(n:Int)≤(cap:Int):=by omega
 have b3:¬(i:Int)=(n:Int):=by omega
 have b4:¬(cap:Int) < (n:Int)+1:=by omega
 have b5:(0:Int)≤(n:Int)+1:=by omega
 have b6:(n:Int)+1≤(cap:Int):=by omega
 have b7:(0:Int)≤(i:Int)+1:=by omega
 have b8:(i:Int)+1≤(n:Int)+1:=by omega
 have b9:(i:Int)≤(n:Int)+1:=by omega
 have hw1:IntKind.i64.wrap ((i:Int)+1)=(i:Int)+1:=by rw [IntKind.wrap_i64];omega
 have t1:((n:Int)+1).toNat=n+1:=by omega
 have t2:((i:Int)+1).toNat=i+1:=by omega
 have c1:¬cap=i+1:=by omega
 have c2:¬cap=i:=by omega
 have e1:n+1 - (i+1)=n - i:=by omega
 have hov:∀lb cb,(callFunc 140 #[.slice (some ⟨vb,0,none⟩) 1 1,.slice (some ⟨g,(i+1)*6,none⟩) lb cb]).run Tryz.prog W= .ok (.value (.bool false)) W:=fun lb cb=>by
  rw [run_callFunc_extern Tryz.func140 (by kernel_rfl) (by kernel_rfl) (by kernel_rfl) (e:=Extern.SlicesOverlaps.overlaps #[40,40] #[4]) (by kernel_rfl),
   Lib.run_overlaps_apart W 40 4 49 Tryz.underlying40 6 (fun w=>by simp [sizeOf,typeInfo,um,hA1]) ⟨vb,0,none⟩ ⟨g,(i+1)*6,none⟩ 1 1 lb cb hne 49 49 us.toArray.size cur.toArray.size (by simp [World.shape?,hu]) (by simp [World.shape?,hg]) (by rw [List.size_toArray];omega) (aH hu 0) (aH hu _)]
  rfl
 have ZT:=aa hg
 have HU':=aa hu
 have HL3:=aa (show (xs.drop (i*6)).length=Nat.min (n+1 - i) (n - i)*6 from by rw [List.length_drop,hxl,show Nat.min (n+1 - i) (n - i)=n - i from Nat.min_eq_right (by omega),←Nat.sub_mul])
 have Yg:=aa (show (i+1)*6+(xs.drop (i*6)).length≤cur.length from by rw [List.length_drop,hxl,hcs];omega)
 clear hg hu hcs hmul hone
 go_enter Tryz.func120,Tryz.ntmps120
 go_wp2_with (simp only [hov])
 clear hov
 have hWz:Ext No W W:=Ext.refl _ _
 obtain ⟨wz,hwz⟩:∃wz,wz=W:=⟨_,rfl⟩
 rw [←hwz] at ZT HU'
 rw [←hwz]
 have HB2:=aa (show wz.drew.heap[g]? =some (.cells cur.toArray 49 (0,0)) from ZT)
 have HUD:=aa (show wz.drew.heap[vb]? =some (.cells us.toArray 49 (0,0)) from HU')
 have HS2:=aa (show ∀j u,(xs.drop (i*6))[j]? =some u→wz.drew.cell? ((⟨g,i*6,none⟩:Addr).add j)=some u from fun j u hj=>by
  rw [Addr.add_lit,cellOf HB2.out]
  rw [List.getElem?_drop,←TQ.2,List.getElem?_take] at hj
  split at hj
  ·simpa using hj
  cases hj)
 have Ye:=aa (show Ext No W wz.drew from by rw [hwz];exact (Ext.refl _ _).drew)
 refine wp_region_held_drew (S:=(fun _=>True)) (by kernel_rfl) ?_ (fun hHeld=>?_)
 ·trivial
 generalize hDW:wz.drew=v0 at*
 refine uO [0,1,2,3,4,5,6,7] ?_
 iterate 8 refine uT ?_
 refine uZ ?_
 refine hHc 8 fun K hK=>?_
 (refine Jh (.tmp 73) (.tmp 76) 40 40 6 rfl 49 Tryz.underlying40 (jP um hA1) g ((i+1)*6) (n - i) (cap - (i+1)) ⟨g,i*6,none⟩ (n+1 - i) (cap - i) (by simp [Act.eval,Act.put]) (by simp [Act.eval,Act.put]) _ _ HB2 (xs.drop (i*6)) HL3 HS2 Yg (fun u hu=>Qd u (List.mem_of_mem_drop hu)) ?_);(intro w5 YL nJ)
 refine uK hK (by trivial) ?_
 clear hK K hHeld
 intro hHeld
 skip
 refine uD ?_
 skip
 have uo:=aa YL
 have YH:=aa nJ
 have HU5:=aa (nJ.blk HUD hne)
 clear YL nJ
 obtain ⟨w6,hrun,hB6,BH⟩:=wV (P:= Tryz.prog) (w:=w5) 40 40 3 49 6 Tryz.underlying40 (jP um hA1) g (i*6) (n+1 - i) (cap - i) ⟨vb,0,none⟩ 1 1 _ _ uo us (by rw [Cc,show Nat.min 1 (n+1 - i)=1 from Nat.min_eq_left (by omega)]) (fun j u hj=>by rw [Addr.add_lit,cellOf HU5.out];simpa using hj) (by rw [rM Yg.out,TQ.out.1,Cc];omega) hu1
 go_wp2_with fail
 go_ret
 have hl3:=HL3.out
 have hcl:=TQ.1
 have hc6:i*6≤cur.length:=by omega
 have hc7:(i+1)*6≤cur.length:=by omega
 have kU:Ext (At g) W w6:=((Ye.lM).trans YH).trans BH
 refine ⟨g,cap,rfl,aa ⟨?_,.inr ⟨g,cap,_,rfl,hbase,hB6,by omega,hcm,?_,?_⟩⟩,kU.mono (fun k _ e=>by rw [show k=g from e];rfl),.inl rfl⟩
 ·simp only [List.length_append,List.length_take,List.length_drop,Cc];omega
 ·have h8:=rM (l:=cur) (cs:=xs.drop (i*6)) (o:=(i+1)*6) Yg
  rw [List.size_toArray,rM (by rw [h8,Cc];omega),h8,hcl]
 exact Oe hxl Cc hi TQ.2 (by omega)
theorem Q5 {w:World} {base g n cap i:Nat} {xs:List Value} (h:w.ownsRow base 49 6 (.slice (some ⟨g,0,none⟩) n cap) n xs) (hi:i≤n):(Builtin.firstCells 6 i (.slice (some ⟨g,0,none⟩) i cap)).run Tryz.prog w= .ok (xs.take (i*6)).toArray w:=
 run_firstCells_some w 6 i ⟨g,0,none⟩ i cap (xs.take (i*6)) (by rw [List.length_take,h.1];omega) (fun j v hj=>by
  rw [Addr.add_lit,Nat.zero_add]
  rw [List.getElem?_take] at hj
  split at hj
  ·rw [World.ownsRow.cellAt h j (by omega)];exact hj
  cases hj)
theorem MS (n:Nat):(Builtin.zeroCells (Value.cells zA) n).size=n*6:=by simp [Builtin.zeroCells,zA,Value.cells]
theorem Lm {row xs us:List Value} {n i G:Nat} (hxl:xs.length=n*6) (Cc:us.length=6) (hi:i < n) (hr:row.length=G*6) (hG:n+1≤G) (ht:row.take (i*6)=xs.take (i*6)):
  (((row.take (i*6)++(us++row.drop (i*6+us.length))).take ((i+1)*6)++(xs.drop (i*6)++(row.take (i*6)++(us++row.drop (i*6+us.length))).drop ((i+1)*6+(xs.drop (i*6)).length))).toArray).toList.take ((n+1)*6)=xs.take (i*6)++us++xs.drop (i*6):=by
 have h1:(row.take (i*6)++(us++row.drop (i*6+us.length))).take ((i+1)*6)=xs.take (i*6)++us:=by
  rw [show (i+1)*6=i*6+us.length by omega,Uo (by omega),ht]
 rw [h1]
 show List.take _ (_++(xs.drop (i*6)++_))=_
 rw [←List.append_assoc]
 exact Df
set_option maxRecDepth 100000 in
set_option maxHeartbeats 8000000 in
theorem JO (base g n cap i vb:Nat) (xs us:List Value) (W:World) (h:W.ownsRow base 49 6 (.slice (some ⟨g,0,none⟩) n cap) n xs) (hb:base≤W.heap.size) (hi:i < n) (hn2:n≤1000) (hroom:cap < n+1) (hone:∀u∈xs,u.oneCell'=true) (hu:W.heap[vb]? =some (.cells us.toArray 49 (0,0))) (Cc:us.length=6) (hu1:∀u∈us,u.oneCell'=true):
  Calls Tryz.prog 120 #[.slice (some ⟨g,0,none⟩) n cap,.int .i64 (i:Int),.slice (some ⟨vb,0,none⟩) 1 1] W (rW base (.slice (some ⟨g,0,none⟩) n cap) n i xs us W):=by
 obtain ⟨iA,um,rC,hA1,hA2⟩:=info_parts Am
 have hxl:=h.1
 have Qd:=aa hone
 have HO:=aa h
 obtain ⟨hcn,hcap2⟩:n≤cap∧cap≤9223372036854775807:=(Row.bG (M:=No) h (fun _ _ x=>x)).caps
 have hik:i+(n+1 - i)=n+1:=by omega
 have hgl:g < W.heap.size:=(World.ownsRow.lt h g rfl).2
 have hkk:(n:Int)+1 - (i:Int)=((n+1 - i:Nat):Int):=by omega
 obtain ⟨G,hG⟩:∃G,G=grownCap W (n+1) cap 49 :=⟨_,rfl⟩
 obtain ⟨NB,qB⟩:∃NB,NB=W.heap.size:=⟨_,rfl⟩
 have hG1:n+1≤G:=by rw [hG];exact grownCap_ge W _ _ _
 have hG63:G≤maxLen:=by rw [hG];exact grownCap_le_maxLen W (n+1) cap 49 (by simp only [maxLen];omega)
 obtain ⟨W1,hrz,HB1,PG⟩:∃W1,(Builtin.append_ #[40,3] 40 #[.slice (some ⟨g,0,none⟩) i cap,.int .i64 ((n:Int)+1 - (i:Int))]).run Tryz.prog W= .ok (.slice (some ⟨NB,0,none⟩) (n+1) G) W1∧Hid (∃row:List Value,W1.heap[NB]? =some (.cells row.toArray 49 (0,0))∧row.length=G*6∧row.take (i*6)=xs.take (i*6))∧Hid (Ext No W W1):=by
  have h1:=Lib.run_append_grow_zeros (P:= Tryz.prog) W 40 3 40 49 iA _ .i64 .i64 Tryz.underlying40 Tryz.underlying3 um rC (some ⟨g,0,none⟩) i cap (xs.take (i*6)) (by rw [hA1];exact Q5 (aZ h (Ext.refl No W).drew (fun _ _ x=>x)) (by omega)) (n+1 - i) (by omega) (by omega) (by omega) (by omega) (by rw [hA2];omega) (by rw [hA2,hik];exact growslice_fits hroom (by omega))
  rw [hik,←hG,←qB] at h1
  rw [hkk]
  refine ⟨_,h1,aa ⟨xs.take (i*6)++((Builtin.zeroCells (Value.cells zA) (n+1 - i)).toList++(Builtin.zeroCells (Value.cells zA) (G - (n+1))).toList),?_,?_,?_⟩,(Ext.refl No W).drew.alloc _⟩
  ·rw [qB]
   refine (ah (w:=W.drew) rfl).trans ?_
   congr 2
   refine Array.ext' ?_
   simp [zA]
  ·have z1:=MS (n+1 - i)
   have z2:=MS (G - (n+1))
   simp only [List.length_append,List.length_take,Array.length_toList,z1,z2,hxl]
   omega
  exact List.take_left' (by rw [List.length_take];omega)
 obtain ⟨row,hB1,hrl,hrt⟩:=HB1.out
 have Ce:=aa hrl
 have HRT:=aa hrt
 have HUL:=aa Cc
 have acW:vb≠NB:=by have:=lt_of_block hu;omega
 have HU1:=aa (PG.blk hu ax)
 obtain ⟨w2,hrun,hB2,hE2⟩:=wV (P:= Tryz.prog) (w:=W1) 40 40 3 49 6 Tryz.underlying40 (jP um hA1) NB (i*6) (n+1 - i) (G - i) ⟨vb,0,none⟩ 1 1 _ _ hB1 us (by rw [Cc,show Nat.min 1 (n+1 - i)=1 from Nat.min_eq_left (by omega)]) (fun j u hj=>by rw [Addr.add_lit,cellOf HU1.out];simpa using hj) (by rw [hrl,Cc];omega) hu1
 have b0:(0:Int)≤(i:Int):=by omega
 have b1:(i:Int)≤(n:Int):=by omega
 have b2:(n:Int)≤(cap:Int):=by omega
 have b3:¬(i:Int)=(n:Int):=by omega
 have b4:(cap:Int) < (n:Int)+1:=by omega
 have b5:(i:Int)≤(cap:Int):=by omega
 have b7:(0:Int)≤(i:Int)+1:=by omega
 have b8:(i:Int)+1≤(n:Int)+1:=by omega
 have b9:(i:Int)≤(n:Int)+1:=by omega
 have b10:(n:Int)+1≤(G:Int):=by omega
 have hw1:IntKind.i64.wrap ((i:Int)+1)=(i:Int)+1:=by rw [IntKind.wrap_i64];omega
 have hw2:IntKind.i64.wrap ((n:Int)+1 - (i:Int))=(n:Int)+1 - (i:Int):=by rw [IntKind.wrap_i64];omega
 have t2:((i:Int)+1).toNat=i+1:=by omega
 have c1:¬G=i+1:=by omega
 have c2:¬G=i:=by omega
 have c3:¬cap=i:=by omega
 have qF:=aa qB
 clear hone h hu Cc HB1 hB1 hrl hrt hik hkk hG qB
 go_enter Tryz.func120,Tryz.ntmps120
 go_wp2_with (at_builtin;refine Lib.wpList_append_run _ rfl _ _ _ _ rfl _ _ rfl rfl _ _ hrz ?_)
 clear hrun hrz
 obtain ⟨wz,hwz⟩:∃wz,wz=w2:=⟨_,rfl⟩
 rw [←hwz] at hB2 hE2 ⊢
 have HB2:=aa (show wz.drew.heap[NB]? =some (.cells _ 49 (0,0)) from hB2)
 have Ye:=aa (show Ext (At NB) W wz.drew from (PG.lM.trans hE2).af (Ext.refl _ _).drew)
 have HL3:=aa (show (xs.drop (i*6)).length=Nat.min (n - i) (n - i)*6 from by rw [List.length_drop,hxl,show Nat.min (n - i) (n - i)=n - i from Nat.min_self _,←Nat.sub_mul])
 have Yg:=aa (show (i+1)*6+(xs.drop (i*6)).length≤(row.take (i*6)++(us++row.drop (i*6+us.length))).length from by rw [rM (by rw [Ce,HUL];omega),Ce,List.length_drop,hxl];omega)
 have HS2:=aa (show ∀j u,(xs.drop (i*6))[j]? =some u→wz.drew.cell? ((⟨g,i*6,none⟩:Addr).add j)=some u from fun j u hj=>by
  have h9:=aZ HO Ye (fun k hk e=>by have h8:g=k:=Option.some.inj hk;unfold At at e;have:=qF.out;omega)
  have hjl:j < (xs.drop (i*6)).length:=(List.getElem?_eq_some_iff.1 hj).1
  rw [List.length_drop,hxl] at hjl
  rw [Addr.add_lit,World.ownsRow.cellAt h9 _ (by omega)]
  rw [List.getElem?_drop] at hj
  exact hj)
 refine wp_region_held_drew (S:=(fun _=>True)) (by kernel_rfl) ?_ (fun hHeld=>?_)
 ·trivial
 generalize hDW:wz.drew=v0 at*
 refine uO [0,1,2,3,4,5,6,7] ?_
 iterate 8 refine uT ?_
 refine uZ ?_
 refine hHc 8 fun K hK=>?_
 (refine Jh (.tmp 50) (.tmp 53) 40 40 6 rfl 49 Tryz.underlying40 (jP um hA1) NB ((i+1)*6) (n - i) (G - (i+1)) ⟨g,i*6,none⟩ (n - i) (cap - i) (by simp [Act.eval,Act.put]) (by simp [Act.eval,Act.put]) _ _ HB2 (xs.drop (i*6)) HL3 HS2 Yg (fun u hu=>Qd u (List.mem_of_mem_drop hu)) ?_);(intro w5 YL nJ)
 refine uK hK (by trivial) ?_
 clear hK K hHeld
 intro hHeld
 skip
 refine uD ?_
 skip
 have uo:=aa YL
 have YH:=aa nJ
 clear YL nJ
 go_wp2_with fail
 go_ret
 have hnb:=qF.out
 refine ⟨NB,G,rfl,aa ⟨?_,.inr ⟨NB,G,_,rfl,by omega,uo,by omega,hG63,?_,?_⟩⟩,(Ye.trans YH).mono (fun k hk e=>by rw [show k=NB from e] at hk;omega),.inr (by omega)⟩
 ·have:=HUL.out
  simp only [List.length_append,List.length_take,List.length_drop,this];omega
 ·rw [List.size_toArray,rM Yg,rM (by rw [Ce,HUL];omega),Ce]
 exact Lm hxl HUL hi Ce hG1 HRT
theorem Og (base n i vb:Nat) (v:Value) (xs us:List Value) (W:World) (h:W.ownsRow base 49 6 v n xs) (hb:base≤W.heap.size) (hi:i≤n) (hn2:n≤1000) (hone:∀u∈xs,u.oneCell'=true) (hu:W.heap[vb]? =some (.cells us.toArray 49 (0,0))) (Cc:us.length=6) (hu1:∀u∈us,u.oneCell'=true) (hne:v.ownBlock≠some vb):
  Calls Tryz.prog 120 #[v,.int .i64 (i:Int),.slice (some ⟨vb,0,none⟩) 1 1] W (rW base v n i xs us W):=by
 by_cases hin:i=n
 ·subst hin
  exact Ll base i vb v xs us W h hb hn2 hu Cc hu1
 obtain ⟨g,cap,rfl⟩:=adI h (by omega)
 by_cases hroom:n+1≤cap
 ·exact JN base g n cap i vb xs us W h (by omega) hn2 hroom hone hu Cc hu1 (fun e=>hne (by rw [e];rfl))
 exact JO base g n cap i vb xs us W h hb (by omega) hn2 (by omega) hone hu Cc hu1
end Go.Proofs.YtmddchceacmopaaGreatDoor

namespace Go.Proofs.YtmddchceacmopaaGreatDoor
open Go Go.RowKit
theorem ni {M:Nat→Prop} {w:World} {L:LA} (h:∀r∈L,kA.ok M w r):∀u∈L.flatMap kA.cells,u.oneCell'=true:=fun u hu=>by
 obtain ⟨r,hr,hu⟩:=List.mem_flatMap.1 hu
 obtain ⟨h1,h2,h3⟩:bN M w r.2.2.1 r.2.2.2.1 r.2.2.2.2 r.2.1:=h r hr
 obtain ⟨_,_,e1⟩:=h1.row.slice
 obtain ⟨_,_,e2⟩:=h2.row.slice
 obtain ⟨_,_,e3⟩:=Row.slice h3
 simp only [kA,e1,e2,e3,List.mem_cons,List.not_mem_nil,or_false] at hu
 rcases hu with rfl|rfl|rfl|rfl|rfl|rfl<;>rfl
def Oh (A:Nat→Prop) (base:Nat) (v:Value) (l':bP) (W:World) (e:Ending) (w':World):Prop:=
 ∃(v':Value) (L':LA),e= .returned (.tuple #[v',.int .i64 0])∧Hid (cZ kA (fun b=>A b∧b < W.heap.size) w' base v' L')∧Hid (L'.map fJ=aT l')∧Hid (Ext (fun k=>v.ownBlock=some k) W w')∧(v'.ownBlock=v.ownBlock∨∀k,v'.ownBlock=some k→W.heap.size≤k)
theorem ww {A:Nat→Prop} {W w':World} {v v':Value} {r:Int×dS×Value×Value×Value} (h:kA.ok (fun b=>A b∨v.ownBlock=some b) W r) (hx:Ext (fun k=>v.ownBlock=some k) W w') (hv:v'.ownBlock=v.ownBlock∨∀k,v'.ownBlock=some k→W.heap.size≤k):
  kA.ok (fun b=>(A b∧b < W.heap.size)∨v'.ownBlock=some b) w' r:=by
 have h1:kA.ok (fun b=>(A b∨v.ownBlock=some b)∨W.heap.size≤b) W r:=kA.mono h (fun i hi e=>e.elim id (fun e=>absurd hi (by omega)))
 refine kA.mono (kA.ext h1 hx (fun i _ e=> .inl (.inr e))) (fun i _ e=>?_)
 rcases e with ⟨e,_⟩|e
 ·exact .inl (.inl e)
 rcases hv with hv|hv
 ·exact .inl (.inr (by rw [←hv];exact e))
 exact .inr (hv i e)
theorem cZ.xA {A:Nat→Prop} {w:World} {base g c i N:Nat} {L:LA} (hr:cZ kA A w base (.slice (some ⟨g,0,none⟩) N c) L) (hN:N=L.length) (hi:i < L.length):
  (∃u0 u1 u2 u3 u4 u5,w.cell? ⟨g,i*6,none⟩=some u0∧w.cell? ⟨g,i*6+1,none⟩=some u1∧w.cell? ⟨g,i*6+2,none⟩=some u2∧w.cell? ⟨g,i*6+3,none⟩=some u3∧w.cell? ⟨g,i*6+4,none⟩=some u4∧w.cell? ⟨g,i*6+5,none⟩=some u5)∧w.frozen? ⟨g,i*6,none⟩=false∧w.frozen? ⟨g,i*6+1,none⟩=false∧w.frozen? ⟨g,i*6+2,none⟩=false∧w.frozen? ⟨g,i*6+3,none⟩=false∧w.frozen? ⟨g,i*6+4,none⟩=false∧w.frozen? ⟨g,i*6+5,none⟩=false:=by
 subst hN
 exact Db
theorem mJ {L:LA} {l:bP} (h:L.map fJ=aT l) {i:Nat} (hi:i < L.length) (hi2:i < l.length):fJ L[i]=((l[i].1:Int),bM l[i].2):=by
 have:=congrArg (fun x=>x[i]?) h
 simpa only [List.getElem?_map,aT,List.getElem?_eq_getElem hi,List.getElem?_eq_getElem hi2,Option.map_some,Option.some.injEq] using this
theorem JP (l:bP) (a:Nat×cK):aT (GK l a)=(aT l).take (kN l a.1)++((a.1:Int),bM a.2)::(aT l).drop (kN l a.1):=by
 rw [QW]
 simp [aT,List.map_take,List.map_drop]
theorem dK (l:bP):(aT l).length=l.length:=by simp [aT]
set_option maxRecDepth 100000 in
set_option maxHeartbeats 8000000 in
theorem Oi (A:Nat→Prop) (base n w m nc:Nat) (v:Value) (ag ak ac:Option Addr) (cg ck cc:Nat) (L:LA) (l:bP) (f:cK) (W:World) (hT:iQ W) (hb:base≤W.heap.size) (h8:w≤8) (hn:n≤256) (hl:dP w n l) (hL:L.map fJ=aT l) (h:cZ kA A W base v L) (hf:eO f∧f.w=w)
  (ha:dF (fun b=>A b∨v.ownBlock=some b) W (.slice ag (nw w) cg) (.slice ak (nw w) ck) (.slice ac nc cc) f):
  Calls Tryz.prog 86 #[v,.agg #[.int .i64 (m:Int),.int .i64 (w:Int),.slice ag (nw w) cg,.int .i64 (w:Int),.slice ak (nw w) ck,.slice ac nc cc]] W (Oh A base v (vL l (m,f)) W):=by
 have HL:=aa hl
 have HM:=aa hL
 have HO:=aa h
 have HA:=aa ha
 have HT:=aa hT
 have hfw:=aa hf.2
 have hlen:L.length=l.length:=by have:=congrArg List.length hL;simpa [aT] using this
 have hll:l.length≤256:=by have:=hl.len;omega
 have jT:=aa hlen
 have NJ:∀w',Ext No W w'→fq No w' v l:=fun w' hx=>⟨L,(HO.uy (fun _ _ x=>x) (fun _ x=>x.elim)).aj hx,HM⟩
 have NJ:=aa NJ
 obtain ⟨a0,cap,hv⟩:∃a0 cap,v= .slice a0 l.length cap:=(NJ W (Ext.refl _ _)).slice
 subst hv
 obtain ⟨N,hN⟩:∃N,N=l.length:=⟨_,rfl⟩
 have HN:=aa hN
 rw [←hN] at HO HA NJ hll ⊢
 clear h ha hl hL hT hf hlen hN
 go_enter Tryz.func86,Tryz.ntmps86
 go_wp2_with fail
 have hx0:Ext No W (W.alloc (.cells #[.int .i64 (m:Int),.int .i64 (w:Int),.slice ag (nw w) cg,.int .i64 (w:Int),.slice ak (nw w) ck,.slice ac nc cc] 49)):=(Ext.refl _ _).alloc _
 have HB0:=aa (ah (w:=W) (o:=(.cells #[.int .i64 (m:Int),.int .i64 (w:Int),.slice ag (nw w) cg,.int .i64 (w:Int),.slice ak (nw w) ck,.slice ac nc cc] 49)) rfl)
 refine (Ho m w _ l _ HL.jX (NJ _ hx0) (by rw [←HN];exact Nat.le_trans hll (by omega))).mono ?_
 rintro e1 V ⟨hh,hx1⟩
 have HX:=aa (hx0.af hx1)
 have HB:=aa (hx1.blk HB0 ax)
 have hbx:=lt_of_block HB0.out
 clear hx0 hx1 HB0
 rcases hh with ⟨h1,rfl⟩|⟨h1,rfl⟩
 ·obtain ⟨i,hi⟩:∃i,i=oh l m:=⟨_,rfl⟩
  have HI:=aa hi
  rw [←hi] at h1 ⊢
  clear hi
  have HI1:=aa h1
  have hiN:i < N:=by rw [HN];exact h1
  have hiz:(i:Int) < (N:Int):=by omega
  have hi0:¬(i:Int) < 0:=by omega
  have hown0:W.ownsRow base 49 6 (.slice a0 N cap) N (L.flatMap kA.cells):=by
   have h9:=HO.own
   rw [jT,←HN] at h9
   exact h9
  obtain ⟨g,cap',hsh⟩:=adI hown0 (by omega)
  simp only [Value.slice.injEq,true_and] at hsh
  obtain ⟨rfl,rfl⟩:=hsh
  clear hown0
  obtain ⟨⟨mm,t⟩,jq⟩:∃q:Nat×cK,q=l[i]:=⟨_,rfl⟩
  obtain ⟨b,off,cap',ag',cg',ak',ck',qN,nc',cc',hsl,gt,HT1,pI⟩:=fq.at HL.jX (NJ V HX) HI1.out jq
  rw [←HN] at hsl
  simp only [Value.slice.injEq,Option.some.injEq,Addr.mk.injEq,and_true,true_and] at hsl
  obtain ⟨⟨rfl,rfl⟩,rfl⟩:=hsl
  simp only [Nat.zero_add] at gt
  obtain ⟨q0,q1,q2,q3,q4,q5⟩:=gt
  have HQ:=aa (And.intro q1 (And.intro q2 (And.intro q3 (And.intro q4 q5))))
  have oP:=aa (show (mm,t)=l[i]'HI1.out from jq)
  clear q0 q1 q2 q3 q4 q5 jq h1
  have HF1:=aa ((HA.mono (M':=No) (fun _ _ x=>x.elim)).aj HX)
  have hTV:=aa (HT.ext HX)
  have PI:(jZ t f).w=w:=pI
  have HJW:=aa PI
  clear PI
  go_upto_region 5 with (fail)
  go_cut [9,10] (fun s9 s10 wx=>∃(gE:Nat) (d1:Option Addr) (e1:Nat) (d2:Option Addr) (e2:Nat) (d3:Option Addr) (n3 e3:Nat),s9= .pointer (some ⟨gE,0,none⟩)∧s10= .int .i64 0∧Hid (Ext No V wx)∧Hid (wx.heap[gE]? =some (.cells #[.int .i64 (w:Int),.slice d1 (nw w) e1,.int .i64 (w:Int),.slice d2 (nw w) e2,.slice d3 n3 e3] 47 (0,0)))∧Hid (dF (Lo V.heap.size) wx (.slice d1 (nw w) e1) (.slice d2 (nw w) e2) (.slice d3 n3 e3) (jZ t f))∧V.heap.size≤gE)
  case first=>
   refine uW (fun w'=>Ext No V w') aS fun hHeld=>?_
   generalize V.drew=v0 at*
   refine uO [0,1,2,3,4,5,6] ?_
   iterate 6 refine uT ?_ (hy:=(by intro w hSw;(obtain ⟨p1,p2,p3,p4,p5⟩:=HQ.out);(have q0:=(show Ext No V _ from hSw).keep p1);(have q1:=(show Ext No V _ from hSw).keep p2);(have q2:=(show Ext No V _ from hSw).keep p3);(have q3:=(show Ext No V _ from hSw).keep p4);(have q4:=(show Ext No V _ from hSw).keep p5);go_simp;(try with_reducible rfl)))
   refine uT ?_ (hy:=(by intro w hSw;(have x0:=cellOf ((show Ext No V _ from hSw).blk HB ax));go_simp;(try with_reducible rfl)))
   refine uZ ?_
   refine aN (i:=7) (j:=11) (by kernel_rfl) (aD.mk rfl rfl (fun K hK=>?_)) (aD.mk rfl rfl (fun K hK=>?_))
   ·(go_simp;(go_at_call 121);(have hSz:=aa (show Ext No V _ from hHeld));(refine (QG (Lo v0.heap.size) t f w _ _ _ _ _ _ _ pI hfw (fun b e=>e) h8 (hTV.ext (show Ext No V _ from hHeld)) (HT1.aj (show Ext No V _ from hHeld)) (HF1.aj (show Ext No V _ from hHeld))).mono ?_);(rintro e0 v1 ⟨d1,e1,d2,e2,d3,n3,e3,rfl,hS,aF⟩);go_simp)
    refine uK hK (Ext.af (show Ext No V _ from hHeld) aF) ?_
    clear hK K hHeld
    intro hHeld
    have PK:=hSz.size
    replace hS:=aa (hS.mono (M':=Lo V.heap.size) (fun i _ e=>Nat.lt_of_lt_of_le e PK))
    clear aF hSz PK
    refine uO [8,9,10] ?_
    iterate 3 refine uT ?_
    refine uZ ?_
    refine hHc 11 fun K hK=>?_
    ((have wE:=aa (show Ext No V _ from hHeld).size);go_simp)
    refine uK hK mZ ?_
    clear hK K hHeld
    intro hHeld
    have hE:=aa (ah (w:=v1) (o:=(.cells #[.int .i64 0,.slice none 0 0,.int .i64 0,.slice none 0 0,.slice none 0 0] 47)) rfl)
    replace hS:=aa ((hS.mono (M':=fun b=>Lo V.heap.size b∨b=v1.heap.size) (fun i hi e=>e.elim id (fun e=>absurd hi (by rw [e];exact Nat.lt_irrefl _)))).aj ((Ext.refl No v1).alloc (.cells #[.int .i64 0,.slice none 0 0,.int .i64 0,.slice none 0 0,.slice none 0 0] 47)))
    generalize World.alloc v1 _=v2 at*
    generalize v1.heap.size=gE at*
    exact Dg
   ((have wE:=aa (show Ext No V _ from hHeld).size);go_simp)
   refine uK hK mZ ?_
   clear hK K hHeld
   intro hHeld
   have hE:=aa (ah (w:=v0) (o:=(.cells #[.int .i64 0,.slice none 0 0,.int .i64 0,.slice none 0 0,.slice none 0 0] 47)) rfl)
   generalize World.alloc v0 _=v1 at*
   generalize v0.heap.size=gE at*
   refine hHc 7 fun K hK=>?_
   (go_simp;(go_at_call 121);(have hSz:=aa (show Ext No V _ from hHeld));(refine (QG (Lo v1.heap.size) t f w _ _ _ _ _ _ _ pI hfw (fun b e=>e) h8 (hTV.ext (show Ext No V _ from hHeld)) (HT1.aj (show Ext No V _ from hHeld)) (HF1.aj (show Ext No V _ from hHeld))).mono ?_);(rintro e0 v2 ⟨d1,e1,d2,e2,d3,n3,e3,rfl,hS,aF⟩);go_simp)
   refine uK hK (Ext.af (show Ext No V _ from hHeld) aF) ?_
   clear hK K hHeld
   intro hHeld
   have PK:=hSz.size
   replace hS:=aa (hS.mono (M':=fun b=>Lo V.heap.size b∨b=gE) (fun i _ e=>e.elim (fun e=>Nat.lt_of_lt_of_le e PK) (fun e=>(by rw [e];exact lt_of_block hE.out))))
   replace hE:=aa (aF.blk hE ax)
   clear aF hSz PK
   refine uO [8,9,10] ?_
   iterate 3 refine uT ?_
   refine uZ ?_
   exact Dg
  case rest=>
  obtain ⟨gE,d1,e1,d2,e2,d3,n3,e3,rfl,rfl,hx,hE,hS,wE⟩:=hcut
  rename World=>wx
  have vR:=aa (HX.af hx)
  have YM:=aa (HO.aj vR)
  have GX:i < L.length:=by have:=jT.out;have:=HN.out;omega
  have GY:=aa GX
  obtain ⟨⟨u0,u1,u2,u3,u4,u5,q0,q1,q2,q3,q4,q5⟩,f0,f1,f2,f3,f4,f5⟩:=YM.xA (by rw [HN,jT]) GX
  have cE:=cellOf hE.out
  clear GX
  go_wp2_with fail
  refine aW rfl ?_
  simp [results,Tryz.results86,go_sem]
  clear q0 q1 q2 q3 q4 q5 f0 f1 f2 f3 f4 f5 cE
  have GX:=GY.out
  have YN:=mJ HM.out GX HI1.out
  have jq:=oP.out
  have hm1:mm=m:=by have h9:=qW (l:=l) (n:=m) (by rw [←HI];exact HI1);simp only [←HI.out,←jq] at h9;exact h9
  have nJ:Ext (At g) wx (((((wx.setCell ⟨g,i*6+1,none⟩ (.int .i64 (w:Int))).setCell ⟨g,i*6+2,none⟩ (.slice d1 (nw w) e1)).setCell ⟨g,i*6+3,none⟩ (.int .i64 (w:Int))).setCell ⟨g,i*6+4,none⟩ (.slice d2 (nw w) e2)).setCell ⟨g,i*6+5,none⟩ (.slice d3 n3 e3)):=(((((Ext.refl (At g) wx).setAt _ _).setAt _ _).setAt _ _).setAt _ _).setAt _ _
  have hown:((((((wx.setCell ⟨g,i*6+1,none⟩ (.int .i64 (w:Int))).setCell ⟨g,i*6+2,none⟩ (.slice d1 (nw w) e1)).setCell ⟨g,i*6+3,none⟩ (.int .i64 (w:Int))).setCell ⟨g,i*6+4,none⟩ (.slice d2 (nw w) e2)).setCell ⟨g,i*6+5,none⟩ (.slice d3 n3 e3))).ownsRow base 49 6 (.slice (some ⟨g,0,none⟩) N cap) (L.set i (L[i].1,bM (jZ t f),Value.slice d1 (nw w) e1,Value.slice d2 (nw w) e2,Value.slice d3 n3 e3)).length ((L.set i (L[i].1,bM (jZ t f),Value.slice d1 (nw w) e1,Value.slice d2 (nw w) e2,Value.slice d3 n3 e3)).flatMap kA.cells):=by
   have h9:=Az (w:=wx) (base:=base) (g:=g) (c:=cap) (N:=N) (k:=i) (L:=L) (p:=(L[i].1,bM (jZ t f),Value.slice d1 (nw w) e1,Value.slice d2 (nw w) e2,Value.slice d3 n3 e3)) (by rw [HN,jT]) (by have h8:=YM.own;rw [jT,←HN] at h8;exact h8) GX rfl
   simp only [bM,bJ,HJW.out] at h9 ⊢
   exact h9
  generalize World.setCell (World.setCell (World.setCell (World.setCell (World.setCell wx _ _) _ _) _ _) _ _) _ _=WF at*
  have eX:Ext (fun k=>Value.ownBlock (.slice (some ⟨g,0,none⟩) N cap)=some k) W WF:=vR.lM.trans (nJ.mono (fun k _ e=>by rw [show k=g from e];rfl))
  have hgW:g < W.heap.size:=(HO.lt g rfl).2
  have hWV:=HX.size
  refine ⟨_,L.set i (L[i].1,bM (jZ t f),Value.slice d1 (nw w) e1,Value.slice d2 (nw w) e2,Value.slice d3 n3 e3),rfl,aa ⟨hown,fun r hr=>?_⟩,aa ?_,eX,.inl rfl⟩
  ·rcases List.mem_or_eq_of_mem_set hr with h9|rfl
   ·exact ww (HO.ok r h9) eX (.inl rfl)
   have h9:kA.ok (fun b=>Lo V.heap.size b) wx (L[i].1,bM (jZ t f),Value.slice d1 (nw w) e1,Value.slice d2 (nw w) e2,Value.slice d3 n3 e3):=⟨hS.gen.words,hS.kill.words,hS.copies⟩
   refine kA.mono (kA.ext h9 nJ (fun k _ e=>by rw [show k=g from e];exact Nat.lt_of_lt_of_le hgW hWV)) (fun k _ e=>?_)
   rcases e with ⟨_,e⟩|e
   ·exact Nat.lt_of_lt_of_le e hWV
   rw [←show g=k from Option.some.inj e];exact Nat.lt_of_lt_of_le hgW hWV
  have hput:vL l (m,f)=l.set i (m,jZ t f):=by
   unfold vL
   rw [dif_pos (by rw [←HI];exact HI1)]
   simp only [←HI.out,←jq]
  rw [hput,List.map_set,HM]
  simp only [aT,List.map_set]
  congr 1
  simp only [fJ] at YN ⊢
  rw [(Prod.ext_iff.1 YN).1,←jq,hm1]
 have H1:=aa h1
 clear h1
 obtain ⟨p,hp⟩:∃p,p=kN l m:=⟨_,rfl⟩
 have HP:=aa hp
 have hpN:p≤N:=by rw [hp,HN];exact MP l m
 clear hp
 have cB:=cellOf HB.out
 go_wp2_with fail
 clear cB
 refine (JM m w _ l _ HL.uq HL.jX (NJ V HX) (by rw [←HN];exact Nat.le_trans hll (by omega))).mono ?_
 rintro e2 w2 ⟨bb,rfl,hx2⟩
 rw [←HP]
 have cB:=cellOf (hx2.blk HB ax)
 have ji:=aa (HX.af hx2)
 clear hx2
 go_wp2_with fail
 clear cB
 have GZ:=aa (ji.af ((Ext.refl No w2).alloc (.cells #[.int .i64 (m:Int),.int .i64 (w:Int),.slice ag (nw w) cg,.int .i64 (w:Int),.slice ak (nw w) ck,.slice ac nc cc] 49)))
 have HU:=aa (ah (w:=w2) (o:=(.cells #[.int .i64 (m:Int),.int .i64 (w:Int),.slice ag (nw w) cg,.int .i64 (w:Int),.slice ak (nw w) ck,.slice ac nc cc] 49)) rfl)
 have hsz2:=ji.size
 have hne:Value.ownBlock (.slice a0 N cap)≠some w2.heap.size:=fun e=>by have:=(HO.lt _ e).2;omega
 have HOU:=aa (HO.aj GZ)
 generalize World.alloc w2 _=U at*
 generalize w2.heap.size=vb at*
 refine (Og base N p vb _ (L.flatMap kA.cells) [.int .i64 (m:Int),.int .i64 (w:Int),.slice ag (nw w) cg,.int .i64 (w:Int),.slice ak (nw w) ck,.slice ac nc cc] U (by have h9:=HOU.own;rw [jT,←HN] at h9;exact h9) (Nat.le_trans hb GZ.size) hpN (by omega) (ni HOU.ok) HU rfl (by simp [Value.oneCell']) hne).mono ?_
 rintro e3 w3 ⟨g',c',rfl,hown,hE,hv⟩
 go_wp2_with fail
 refine aW rfl ?_
 simp [results,Tryz.results86,go_sem]
 have eX:Ext (fun k=>Value.ownBlock (.slice a0 N cap)=some k) W w3:=GZ.lM.trans hE
 have hWU:=GZ.size
 have hv2:Value.ownBlock (.slice (some ⟨g',0,none⟩) (N+1) c')=Value.ownBlock (.slice a0 N cap)∨∀k,Value.ownBlock (.slice (some ⟨g',0,none⟩) (N+1) c')=some k→W.heap.size≤k:=hv.imp (fun e=>e.symm) (fun e k hk=>by rw [←show g'=k from Option.some.inj hk];omega)
 have hpa:kA.ok (fun b=>A b∨Value.ownBlock (.slice a0 N cap)=some b) W ((m:Int),bM f,Value.slice ag (nw w) cg,Value.slice ak (nw w) ck,Value.slice ac nc cc):=HA.raw
 have hce:kA.cells ((m:Int),bM f,Value.slice ag (nw w) cg,Value.slice ak (nw w) ck,Value.slice ac nc cc)=[.int .i64 (m:Int),.int .i64 (w:Int),.slice ag (nw w) cg,.int .i64 (w:Int),.slice ak (nw w) ck,.slice ac nc cc]:=by
  simp only [kA,bM,bJ,hfw.out]
 obtain ⟨pa,hpe⟩:∃pa:Int×dS×Value×Value×Value,pa=((m:Int),bM f,Value.slice ag (nw w) cg,Value.slice ak (nw w) ck,Value.slice ac nc cc):=⟨_,rfl⟩
 rw [←hpe] at hpa hce
 have hfl:(L.take p++pa::L.drop p).flatMap kA.cells=(L.flatMap kA.cells).take (p*6)++[.int .i64 (m:Int),.int .i64 (w:Int),.slice ag (nw w) cg,.int .i64 (w:Int),.slice ak (nw w) ck,.slice ac nc cc]++(L.flatMap kA.cells).drop (p*6):=by
  rw [List.flatMap_append,List.flatMap_cons,hce,show p*6=p*kA.s from rfl,xU kA L p,xV kA L p,List.append_assoc]
 refine ⟨_,L.take p++pa::L.drop p,rfl,aa ⟨?_,fun r hr=>?_⟩,aa ?_,eX,hv2⟩
 ·rw [hfl]
  have h9:(L.take p++pa::L.drop p).length=N+1:=by
   have:=jT.out
   have:=HN.out
   simp only [List.length_append,List.length_take,List.length_cons,List.length_drop]
   omega
  rw [h9]
  exact hown
 ·rcases List.mem_append.1 hr with h9|h9
  ·exact ww (HO.ok r (List.mem_of_mem_take h9)) eX hv2
  rcases List.mem_cons.1 h9 with rfl|h9
  ·exact ww hpa eX hv2
  exact ww (HO.ok r (List.mem_of_mem_drop h9)) eX hv2
 have hput:vL l (m,f)=GK l (m,f):=by
  unfold vL
  rw [dif_neg H1.out]
 rw [hput,JP,List.map_append,List.map_cons,List.map_take,List.map_drop,HM,←HP,hpe]
 rfl

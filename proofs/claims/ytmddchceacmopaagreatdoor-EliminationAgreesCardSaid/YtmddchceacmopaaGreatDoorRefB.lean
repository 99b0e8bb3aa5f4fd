
import Derived.Test.YtmddchceacmopaaGreatDoorRefA
set_option linter.unusedVariables false
set_option linter.unusedSimpArgs false
namespace Go.Proofs.YtmddchceacmopaaGreatDoor
open Go Go.RowKit
theorem jM {p:Prop} (h:p:=by (go_split_ands;refine ⟨?_,?_,?_,?_,?_,?_⟩<;>(repeat (first|(with_reducible assumption)|(with_reducible exact Ext.refl _ _)|(with_reducible refine keepD ?_)|(with_reducible refine aO ?_)|(with_reducible refine Ext.drew ?_)|(with_reducible refine Ext.alloc ?_ _)|(with_reducible refine bY.drew ?_)|(with_reducible refine bY.alloc ?_ _)|(with_reducible refine bY.set ?_ _ _)|((with_reducible refine kX ?_ ?_);(first|(with_reducible assumption)|omega|(simp;omega)|(exact Nat.le_refl _)))|(with_reducible refine Ext.setAt ?_ _ _)|((with_reducible refine Ext.own ?_ ?_ _);rotate_left;(first|(with_reducible assumption)|omega|(simp;omega)|(exact Nat.le_refl _)))|(with_reducible refine bf aF ?_)|(with_reducible refine Ext.af ?_ aF)|(with_reducible refine bY.ext ?_ aF))))):p:=h
theorem Gd {p:Prop} (h:p:=by
 go_enter Tryz.func38,Tryz.ntmps38
 go_wp2_with fail
 refine (dL _ r.gen _ (HG.aj ((Ext.refl _ _).alloc _))).mono ?_
 rintro e1 w1 ⟨rfl,hx1⟩
 rw [h1]
 have hxa:Ext No W w1:=((Ext.refl _ _).alloc _).af hx1
 have hB:=hx1.blk (ah (w:=W) rfl) ax
 have cB:=cellOf hB
 clear hx1
 go_wp2_with fail
 refine (dL _ r.kill _ (HK.aj hxa)).mono ?_
 exact Fw):p:=h
set_option maxHeartbeats 2000000 in
theorem L8 (r:dS) (sg sk sc:Value) (W:World) (h:bN No W sg sk sc r) (hd:nY r=false):Calls Tryz.prog 38 #[.agg #[.int .i64 (r.gen.width:Int),sg,.int .i64 (r.kill.width:Int),sk,sc]] W (bZ (gu r) W):=by
 have H:=aa h
 have hgv:oo No W (.agg #[.int .i64 r.gen.width,sg]) r.gen:=⟨_,rfl,h.gen⟩
 have hkv:oo No W (.agg #[.int .i64 r.kill.width,sk]) r.kill:=⟨_,rfl,h.kill⟩
 have HG:=aa hgv
 have HK:=aa hkv
 have hlen:=h.copies.2.1
 obtain ⟨ag,ng,cg,rfl⟩:=h.gen.shaped
 obtain ⟨ak,nk,ck,rfl⟩:=h.kill.shaped
 obtain ⟨ac,cc,rfl⟩:=Row.slice h.copies
 clear h hgv hkv
 rw [zx hd]
 unfold nY at hd
 cases h1:fH r.gen with
 |false=>
  clear hd
  go_enter Tryz.func38,Tryz.ntmps38
  go_wp2_with fail
  refine (dL _ r.gen _ (HG.aj ((Ext.refl _ _).alloc _))).mono ?_
  exact Fy
 |true=>
  cases h2:fH r.kill with
  |false=>
   clear hd
   go_enter Tryz.func38,Tryz.ntmps38
   go_wp2_with fail
   refine (dL _ r.gen _ (HG.aj ((Ext.refl _ _).alloc _))).mono ?_
   rintro e1 w1 ⟨rfl,hx1⟩
   rw [h1]
   have hxa:Ext No W w1:=((Ext.refl _ _).alloc _).af hx1
   have cB:=cellOf (hx1.blk (ah (w:=W) rfl) ax)
   clear hx1
   go_wp2_with fail
   refine (dL _ r.kill _ (HK.aj hxa)).mono ?_
   exact Fx
  |true=>
   rw [h1,h2,Bool.true_and,Bool.true_and] at hd
   by_cases h3:r.gen.width=r.kill.width
   ·have h4:¬r.copies.length≤64:=fun h4=>by rw [decide_eq_true h3,decide_eq_true h4] at hd;cases hd
    have h3':(r.gen.width != r.kill.width)=false:=by simpa using h3
    have h4':decide ((64:Int) < (r.copies.length:Int))=true:=by simp;omega
    clear h3 h4 hd
    exact Gd
   have h3':(r.gen.width != r.kill.width)=true:=by simpa using h3
   clear h3 hd
   exact Gd
set_option maxRecDepth 100000 in
set_option maxHeartbeats 4000000 in
theorem iN (r:dS) (sg sk sc:Value) (W:World) (h:bN No W sg sk sc r):Calls Tryz.prog 38 #[.agg #[.int .i64 (r.gen.width:Int),sg,.int .i64 (r.kill.width:Int),sk,sc]] W (bZ (gu r) W):=by
 cases hd:nY r with
 |false=>exact L8 r sg sk sc W h hd
 |true=>
  have HD:=aa hd
  have H:=aa h
  have hgv:oo No W (.agg #[.int .i64 r.gen.width,sg]) r.gen:=⟨_,rfl,h.gen⟩
  have hkv:oo No W (.agg #[.int .i64 r.kill.width,sk]) r.kill:=⟨_,rfl,h.kill⟩
  have HG:=aa hgv
  have HK:=aa hkv
  obtain ⟨ag,ng,cg,rfl⟩:=h.gen.shaped
  obtain ⟨ak,nk,ck,rfl⟩:=h.kill.shaped
  obtain ⟨ac,cc,rfl⟩:=Row.slice h.copies
  clear h hgv hkv
  unfold nY at hd
  simp only [Bool.and_eq_true,decide_eq_true_eq] at hd
  obtain ⟨h1,h2,h3,h4⟩:=hd
  have h3':(r.gen.width != r.kill.width)=false:=by simpa using h3
  have h4':decide ((64:Int) < (r.copies.length:Int))=false:=by simp;omega
  clear h3
  go_enter Tryz.func38,Tryz.ntmps38
  go_wp2_with fail
  refine (dL _ r.gen _ (HG.aj ((Ext.refl _ _).alloc _))).mono ?_
  rintro e1 w1 ⟨rfl,hx1⟩
  rw [h1]
  have hxa:Ext No W w1:=((Ext.refl _ _).alloc _).af hx1
  have hB:=hx1.blk (ah (w:=W) rfl) ax
  have cB:=cellOf hB
  clear hx1
  go_wp2_with fail
  refine (dL _ r.kill _ (HK.aj hxa)).mono ?_
  rintro e2 w2 ⟨rfl,hx2⟩
  rw [h2]
  have hB2:=aa (hx2.blk hB ax)
  have ji:=aa (hxa.af hx2)
  clear cB hB hxa hx2 h1 h2
  have cB:=cellOf hB2.out
  go_wp2_with fail
  clear cB h3' h4'
  go_loopw [4] (fun i wr=>∃k:Nat,k≤r.copies.length∧i= .int .i64 k∧Hid (Ext No W wr)∧Hid (wr.heap[W.heap.size]? =some (.cells #[.int .i64 r.gen.width,.slice ag ng cg,.int .i64 r.kill.width,.slice ak nk ck,.slice ac r.copies.length cc] 47 (0,0)))∧Hid (∀j (hj:j < r.copies.length),j < k→oG r.gen.width r.copies j hj=true)) (fun i _=>r.copies.length - (intOf i).toNat)
  case atStart=>exact Fz
  clear ji hB2
  obtain ⟨k,hk,rfl,hx,hB,hall⟩:=hrel
  by_cases hlt:k < r.copies.length
  ·obtain ⟨b,off,cap',hsl,hb1,_,hcell⟩:=H.copies.at hlt
   simp only [Value.slice.injEq] at hsl
   obtain ⟨rfl,_,rfl⟩:=hsl
   obtain ⟨q0,q1⟩:=hcell k hlt
   replace q0:=hx.keep q0
   replace q1:=hx.keep q1
   have p0:=hx.keep (hcell (k - 1) (by omega)).1
   have p1:=hx.keep (hcell (k - 1) (by omega)).2
   clear hcell
   have hpos:(0:Int)≤(k:Int):=by omega
   have hkb:k≤64:=by omega
   have HE:Hid (oG r.gen.width r.copies k hlt=(mh r.gen.width r.copies[k].1&&(mh r.gen.width r.copies[k].2&&(decide (k=0)||decide (iM r.copies[k - 1] r.copies[k] < 0))))):=aa rfl
   have hsz:W.heap.size < _:=lt_of_block hB.out
   rename World=>wr
   have b0:wr.cell? ⟨W.heap.size,0,none⟩=some (.int .i64 r.gen.width):=cellOf hB.out 0
   have b1':wr.cell? ⟨W.heap.size,1,none⟩=some (.slice ag ng cg):=cellOf hB.out 1
   have b2:wr.cell? ⟨W.heap.size,2,none⟩=some (.int .i64 r.kill.width):=cellOf hB.out 2
   have b3:wr.cell? ⟨W.heap.size,3,none⟩=some (.slice ak nk ck):=cellOf hB.out 3
   have b4:wr.cell? ⟨W.heap.size,4,none⟩=some (.slice (some ⟨b,off,none⟩) r.copies.length cc):=cellOf hB.out 4
   have HKK:Hid (Value.int .i64 ((k:Int)+1)= .int .i64 ((k+1:Nat):Int)):=aa (by rw [show ((k+1:Nat):Int)=(k:Int)+1 from by omega])
   generalize hx1:r.copies[k]=x at*
   generalize hy1:r.copies[k - 1]=y at*
   obtain ⟨x1,x2⟩:=x
   obtain ⟨y1,y2⟩:=y
   have Kn:=aa hx1
   have HYY:=aa hy1
   clear hx1 hy1
   simp only at q0 q1 p0 p1 HE
   go_wp2_with fail
   have l5:(wr.alloc (.cells #[.int .i64 x1,.int .i64 x2] 75)).cell? ⟨wr.heap.size,0,none⟩=some (.int .i64 x1):=cellOf (ah rfl) 0
   have l6:(wr.alloc (.cells #[.int .i64 x1,.int .i64 x2] 75)).cell? ⟨wr.heap.size,1,none⟩=some (.int .i64 x2):=cellOf (ah rfl) 1
   replace b0:=aO (o:= .cells #[.int .i64 x1,.int .i64 x2] 75) b0
   replace b1':=aO (o:= .cells #[.int .i64 x1,.int .i64 x2] 75) b1'
   replace b2:=aO (o:= .cells #[.int .i64 x1,.int .i64 x2] 75) b2
   replace b3:=aO (o:= .cells #[.int .i64 x1,.int .i64 x2] 75) b3
   replace b4:=aO (o:= .cells #[.int .i64 x1,.int .i64 x2] 75) b4
   replace p0:=aO (o:= .cells #[.int .i64 x1,.int .i64 x2] 75) p0
   replace p1:=aO (o:= .cells #[.int .i64 x1,.int .i64 x2] 75) p1
   have hx4:Ext No wr (wr.alloc (.cells #[.int .i64 x1,.int .i64 x2] 75)):=(Ext.refl _ _).alloc _
   have hB4:=aa (ay (o:= .cells #[.int .i64 x1,.int .i64 x2] 75) hB)
   have II:=aa (hx.af hx4)
   clear q0 q1 hx hB hsz
   generalize wr.heap.size=D at*
   generalize World.alloc wr _=w4 at*
   clear hx4
   have l9:Ext No w4 w4:=Ext.refl _ _
   have hw1:0 < k→IntKind.i64.wrap ((k:Int) - 1)=((k - 1:Nat):Int):=fun h=>by rw [IntWalk.i64_in _ (by omega)];omega
   have hp1:0≤((k - 1:Nat):Int):=by omega
   have hp2:((k - 1:Nat):Int) < (r.copies.length:Int):=by omega
   clear b0 b1' b2 b3 hw1
   have hxl:D < w4.heap.size:=World.block_lt_of_cell? w4 _ l5
   by_cases n1:x1 < 0
   ·have d1:mh r.gen.width x1=false:=by simp only [mh,decide_eq_false_iff_not];omega
    refine uW (fun w'=>w'.cell? ⟨W.heap.size,4,none⟩=some (.slice (some ⟨b,off,none⟩) r.copies.length cc)∧w'.cell? ⟨D,0,none⟩=some (.int .i64 x1)∧w'.cell? ⟨D,1,none⟩=some (.int .i64 x2)∧w'.cell? ⟨b,off+(k - 1)*2,none⟩=some (.int .i64 y1)∧w'.cell? ⟨b,off+(k - 1)*2+1,none⟩=some (.int .i64 y2)∧Ext No w4 w') jM fun hHeld=>?_
    refine uO [0,1,2,3,4,5,6,7,8,9,10,11,12,13,14,15,16,17,18,19,20,21,22,23,24,25,26,27,28,29,30,31,32,33,34] ?_
    iterate 4 refine uT ?_ (hy:=aM)
    iterate 4 refine uS ?_
    iterate 2 refine uT ?_ (hy:=aM)
    iterate 3 refine uS ?_
    iterate 2 refine uT ?_ (hy:=aM)
    iterate 4 refine uS ?_
    iterate 2 refine uT ?_ (hy:=aM)
    iterate 13 refine uS ?_
    refine uT ?_ (hy:=aM)
    refine uZ ?_
    refine uD ?_
    have lZ:=hHeld.2.2.2.2.2
    go_wp2_with fail
    go_ret
    exact ⟨kM (jH k hlt (by rw [HE,d1];rfl)).symm,II.af lZ⟩
   by_cases n2:r.gen.width≤x1
   ·have d1:mh r.gen.width x1=false:=by simp only [mh,decide_eq_false_iff_not];omega
    have n1':decide (x1 < 0)=false:=by simpa using n1
    clear n1
    refine uW (fun w'=>w'.cell? ⟨W.heap.size,4,none⟩=some (.slice (some ⟨b,off,none⟩) r.copies.length cc)∧w'.cell? ⟨D,0,none⟩=some (.int .i64 x1)∧w'.cell? ⟨D,1,none⟩=some (.int .i64 x2)∧w'.cell? ⟨b,off+(k - 1)*2,none⟩=some (.int .i64 y1)∧w'.cell? ⟨b,off+(k - 1)*2+1,none⟩=some (.int .i64 y2)∧Ext No w4 w') jM fun hHeld=>?_
    refine uO [0,1,2,3,4,5,6,7,8,9,10,11,12,13,14,15,16,17,18,19,20,21,22,23,24,25,26,27,28,29,30,31,32,33,34] ?_
    iterate 10 refine uT ?_ (hy:=aM)
    iterate 3 refine uS ?_
    iterate 2 refine uT ?_ (hy:=aM)
    iterate 4 refine uS ?_
    iterate 2 refine uT ?_ (hy:=aM)
    iterate 13 refine uS ?_
    refine uT ?_ (hy:=aM)
    refine uZ ?_
    refine uD ?_
    have lZ:=hHeld.2.2.2.2.2
    go_wp2_with fail
    go_ret
    exact ⟨kM (jH k hlt (by rw [HE,d1];rfl)).symm,II.af lZ⟩
   have d1:Hid (mh r.gen.width x1=true):=aa (by simp only [mh,decide_eq_true_eq];omega)
   have n1':decide (x1 < 0)=false:=by simpa using n1
   have n2':decide (r.gen.width≤x1)=false:=by simpa using n2
   clear n1 n2
   by_cases n3:x2 < 0
   ·have d2:mh r.gen.width x2=false:=by simp only [mh,decide_eq_false_iff_not];omega
    refine uW (fun w'=>w'.cell? ⟨W.heap.size,4,none⟩=some (.slice (some ⟨b,off,none⟩) r.copies.length cc)∧w'.cell? ⟨D,0,none⟩=some (.int .i64 x1)∧w'.cell? ⟨D,1,none⟩=some (.int .i64 x2)∧w'.cell? ⟨b,off+(k - 1)*2,none⟩=some (.int .i64 y1)∧w'.cell? ⟨b,off+(k - 1)*2+1,none⟩=some (.int .i64 y2)∧Ext No w4 w') jM fun hHeld=>?_
    refine uO [0,1,2,3,4,5,6,7,8,9,10,11,12,13,14,15,16,17,18,19,20,21,22,23,24,25,26,27,28,29,30,31,32,33,34] ?_
    iterate 15 refine uT ?_ (hy:=aM)
    iterate 4 refine uS ?_
    iterate 2 refine uT ?_ (hy:=aM)
    iterate 13 refine uS ?_
    refine uT ?_ (hy:=aM)
    refine uZ ?_
    refine uD ?_
    have lZ:=hHeld.2.2.2.2.2
    go_wp2_with fail
    go_ret
    exact ⟨kM (jH k hlt (by rw [HE,d1,d2];rfl)).symm,II.af lZ⟩
   by_cases n4:r.gen.width≤x2
   ·have d2:mh r.gen.width x2=false:=by simp only [mh,decide_eq_false_iff_not];omega
    have n3':decide (x2 < 0)=false:=by simpa using n3
    clear n3
    refine uW (fun w'=>w'.cell? ⟨W.heap.size,4,none⟩=some (.slice (some ⟨b,off,none⟩) r.copies.length cc)∧w'.cell? ⟨D,0,none⟩=some (.int .i64 x1)∧w'.cell? ⟨D,1,none⟩=some (.int .i64 x2)∧w'.cell? ⟨b,off+(k - 1)*2,none⟩=some (.int .i64 y1)∧w'.cell? ⟨b,off+(k - 1)*2+1,none⟩=some (.int .i64 y2)∧Ext No w4 w') jM fun hHeld=>?_
    refine uO [0,1,2,3,4,5,6,7,8,9,10,11,12,13,14,15,16,17,18,19,20,21,22,23,24,25,26,27,28,29,30,31,32,33,34] ?_
    iterate 21 refine uT ?_ (hy:=aM)
    iterate 13 refine uS ?_
    refine uT ?_ (hy:=aM)
    refine uZ ?_
    refine uD ?_
    have lZ:=hHeld.2.2.2.2.2
    go_wp2_with fail
    go_ret
    exact ⟨kM (jH k hlt (by rw [HE,d1,d2];rfl)).symm,II.af lZ⟩
   have d2:Hid (mh r.gen.width x2=true):=aa (by simp only [mh,decide_eq_true_eq];omega)
   have n3':decide (x2 < 0)=false:=by simpa using n3
   have n4':decide (r.gen.width≤x2)=false:=by simpa using n4
   clear n3 n4
   by_cases hk0:k=0
   ·have ZK:=aa hk0
    have hkd:decide ((0:Int) < (k:Int))=false:=decide_eq_false (by omega)
    have hkn:¬(0 < k):=by omega
    clear hp1 hp2 hk0
    refine uW (fun w'=>w'.cell? ⟨W.heap.size,4,none⟩=some (.slice (some ⟨b,off,none⟩) r.copies.length cc)∧w'.cell? ⟨D,0,none⟩=some (.int .i64 x1)∧w'.cell? ⟨D,1,none⟩=some (.int .i64 x2)∧w'.cell? ⟨b,off+(k - 1)*2,none⟩=some (.int .i64 y1)∧w'.cell? ⟨b,off+(k - 1)*2+1,none⟩=some (.int .i64 y2)∧Ext No w4 w') jM fun hHeld=>?_
    refine uO [0,1,2,3,4,5,6,7,8,9,10,11,12,13,14,15,16,17,18,19,20,21,22,23,24,25,26,27,28,29,30,31,32,33,34] ?_
    iterate 24 refine uT ?_ (hy:=aM)
    iterate 9 refine uS ?_
    iterate 2 refine uT ?_ (hy:=aM)
    refine uZ ?_
    refine uD ?_
    have lZ:=hHeld.2.2.2.2.2
    go_wp2_with fail
    go_roundw
    case rel=>exact ⟨k+1,by omega,HKK,II.af lZ,lZ.blk hB4 ax,aa (fun j hj hjk=>by
     by_cases e:j=k
     ·subst e
      rw [HE,d1,d2,decide_eq_true ZK.out];rfl
     exact hall j hj (by omega))⟩
    case measure=>simp [intOf];omega
   have hkp:0 < k:=by omega
   have hw2:IntKind.i64.wrap ((k:Int) - 1)=((k - 1:Nat):Int):=by rw [IntWalk.i64_in _ (by omega)];omega
   have ZK:=aa hk0
   clear hk0
   have hkd:decide ((0:Int) < (k:Int))=true:=by simpa using hkp
   cases hbb:vY (y1,y2) (x1,x2)
   ·have qM:=aa hbb
    have WV:=aa ((Bq (y1,y2) (x1,x2)).symm.trans hbb)
    clear hbb
    refine uW (fun w'=>w'.cell? ⟨W.heap.size,4,none⟩=some (.slice (some ⟨b,off,none⟩) r.copies.length cc)∧w'.cell? ⟨D,0,none⟩=some (.int .i64 x1)∧w'.cell? ⟨D,1,none⟩=some (.int .i64 x2)∧w'.cell? ⟨b,off+(k - 1)*2,none⟩=some (.int .i64 y1)∧w'.cell? ⟨b,off+(k - 1)*2+1,none⟩=some (.int .i64 y2)∧Ext No w4 w') jM fun hHeld=>?_
    refine uO [0,1,2,3,4,5,6,7,8,9,10,11,12,13,14,15,16,17,18,19,20,21,22,23,24,25,26,27,28,29,30] ?_
    iterate 31 refine uT ?_ (hy:=aM)
    refine uZ ?_
    refine hHc 31 fun K hK=>?_
    ((try go_simp);go_at_call 79;(with_reducible refine (zw (y1,y2) (x1,x2) _).mono ?_);(rintro e' w1 ⟨rfl,aF⟩);(try rw [qM.out]);go_simp)
    refine uK hK jM ?_
    clear hK K hHeld
    intro hHeld
    refine uO [32,33,34] ?_
    iterate 3 refine uT ?_ (hy:=aM)
    refine uZ ?_
    refine uD ?_
    have lZ:=hHeld.2.2.2.2.2
    go_wp2_with fail
    go_ret
    exact ⟨kM (jH k hlt (by rw [HE,d1,d2,WV,decide_eq_false ZK.out];rfl)).symm,II.af lZ⟩
   have qM:=aa hbb
   have WV:=aa ((Bq (y1,y2) (x1,x2)).symm.trans hbb)
   clear hbb
   refine uW (fun w'=>w'.cell? ⟨W.heap.size,4,none⟩=some (.slice (some ⟨b,off,none⟩) r.copies.length cc)∧w'.cell? ⟨D,0,none⟩=some (.int .i64 x1)∧w'.cell? ⟨D,1,none⟩=some (.int .i64 x2)∧w'.cell? ⟨b,off+(k - 1)*2,none⟩=some (.int .i64 y1)∧w'.cell? ⟨b,off+(k - 1)*2+1,none⟩=some (.int .i64 y2)∧Ext No w4 w') jM fun hHeld=>?_
   refine uO [0,1,2,3,4,5,6,7,8,9,10,11,12,13,14,15,16,17,18,19,20,21,22,23,24,25,26,27,28,29,30] ?_
   iterate 31 refine uT ?_ (hy:=aM)
   refine uZ ?_
   refine hHc 31 fun K hK=>?_
   ((try go_simp);go_at_call 79;(with_reducible refine (zw (y1,y2) (x1,x2) _).mono ?_);(rintro e' w1 ⟨rfl,aF⟩);(try rw [qM.out]);go_simp)
   refine uK hK jM ?_
   clear hK K hHeld
   intro hHeld
   refine uO [32,33,34] ?_
   iterate 3 refine uT ?_ (hy:=aM)
   refine uZ ?_
   refine uD ?_
   have lZ:=hHeld.2.2.2.2.2
   go_wp2_with fail
   go_roundw
   case rel=>exact ⟨k+1,by omega,HKK,II.af lZ,lZ.blk hB4 ax,aa (fun j hj hjk=>by
    by_cases e:j=k
    ·subst e
     rw [HE,d1,d2,WV,Bool.or_true];rfl
    exact hall j hj (by omega))⟩
   case measure=>simp [intOf];omega
  have hfin:gu r=true:=vv HD (fun j hj=>hall j hj (by omega))
  have HF:=aa hfin
  clear hfin
  have cB:=cellOf hB.out
  have hge:¬(k:Int) < (r.copies.length:Int):=by omega
  go_wp2_with fail
  go_ret
  rw [HF]
  exact ⟨rfl,hx⟩
theorem xg (t:cK) (w:Nat) (sg sk sc:Value) (W:World) (hw:t.w=w) (h:dF No W sg sk sc t):Calls Tryz.prog 38 #[.agg #[.int .i64 (w:Int),sg,.int .i64 (w:Int),sk,sc]] W (bZ true W):=by
 subst hw
 have:=iN (bM t) sg sk sc W h.raw
 rw [kg h.ok] at this
 exact this


import Derived.Test.YtmddchceacmopaaGreatDoorRefI
set_option linter.unusedVariables false
set_option linter.unusedSimpArgs false
namespace Go.Proofs.YtmddchceacmopaaGreatDoor
open Go Go.RowKit
set_option maxRecDepth 100000 in
set_option maxHeartbeats 1000000 in
theorem QS (r1 r2:dS) (g1 k1 c1 g2 k2 c2:Value) (W:World) (h1:bN No W g1 k1 c1 r1) (h2:bN No W g2 k2 c2 r2):
  Calls Tryz.prog 102 #[.agg #[.int .i64 r1.gen.width,g1,.int .i64 r1.kill.width,k1,c1],.agg #[.int .i64 r2.gen.width,g2,.int .i64 r2.kill.width,k2,c2]] W (vT (mq r1 r2) W):=by
 have H1:=aa h1
 have H2:=aa h2
 obtain ⟨BX,SV,BZ,rfl⟩:=h1.gen.shaped
 obtain ⟨SX,SY,ck1,rfl⟩:=h1.kill.shaped
 obtain ⟨S9,Ta,Tc,rfl⟩:=h1.copies.shaped
 obtain ⟨pY,Td,cg2,rfl⟩:=h2.gen.shaped
 obtain ⟨xL,Te,ck2,rfl⟩:=h2.kill.shaped
 obtain ⟨xM,xN,xO,rfl⟩:=h2.copies.shaped
 clear h1 h2
 go_enter Tryz.func102,Tryz.ntmps102
 go_wp2_with fail
 have hx0:Ext No W ((W.alloc (.cells #[.int .i64 r1.gen.width,.slice BX SV BZ,.int .i64 r1.kill.width,.slice SX SY ck1,.slice S9 Ta Tc] 47)).alloc (.cells #[.int .i64 r2.gen.width,.slice pY Td cg2,.int .i64 r2.kill.width,.slice xL Te ck2,.slice xM xN xO] 47)):=((Ext.refl _ _).alloc _).alloc _
 have hA:((W.alloc (.cells #[.int .i64 r1.gen.width,.slice BX SV BZ,.int .i64 r1.kill.width,.slice SX SY ck1,.slice S9 Ta Tc] 47)).alloc (.cells #[.int .i64 r2.gen.width,.slice pY Td cg2,.int .i64 r2.kill.width,.slice xL Te ck2,.slice xM xN xO] 47)).heap[W.heap.size]? =some (.cells #[.int .i64 r1.gen.width,.slice BX SV BZ,.int .i64 r1.kill.width,.slice SX SY ck1,.slice S9 Ta Tc] 47 (0,0)):=ay (ah rfl)
 have hB:((W.alloc (.cells #[.int .i64 r1.gen.width,.slice BX SV BZ,.int .i64 r1.kill.width,.slice SX SY ck1,.slice S9 Ta Tc] 47)).alloc (.cells #[.int .i64 r2.gen.width,.slice pY Td cg2,.int .i64 r2.kill.width,.slice xL Te ck2,.slice xM xN xO] 47)).heap[W.heap.size+1]? =some (.cells #[.int .i64 r2.gen.width,.slice pY Td cg2,.int .i64 r2.kill.width,.slice xL Te ck2,.slice xM xN xO] 47 (0,0)):=ah (by simp)
 generalize World.alloc (World.alloc W _) _=W2 at*
 refine (iN r1 _ _ _ _ (H1.aj hx0)).mono ?_
 rintro e1 w1 ⟨rfl,hx1⟩
 have hx:=aa (hx0.af hx1)
 have HA:=aa (hx1.blk hA ax)
 have HB:=aa (hx1.blk hB ax)
 clear hx0 hx1 hA hB
 cases hv1:gu r1 with
 |false=>exact CP
 |true=>
  have cB:=cellOf HB.out
  have aK:=aa hv1
  clear hv1
  go_wp2_with fail
  refine (iN r2 _ _ _ _ (H2.aj hx)).mono ?_
  exact adB
theorem MN (t u:cK) (g1 k1 c1 g2 k2 c2:Value) (W:World) (hu:u.w=t.w) (h1:dF No W g1 k1 c1 t) (h2:dF No W g2 k2 c2 u):
  Calls Tryz.prog 102 #[.agg #[.int .i64 (t.w:Int),g1,.int .i64 (t.w:Int),k1,c1],.agg #[.int .i64 (t.w:Int),g2,.int .i64 (t.w:Int),k2,c2]] W (vT 0 W):=by
 have h:=QS (bM t) (bM u) g1 k1 c1 g2 k2 c2 W h1.raw h2.raw
 exact CR

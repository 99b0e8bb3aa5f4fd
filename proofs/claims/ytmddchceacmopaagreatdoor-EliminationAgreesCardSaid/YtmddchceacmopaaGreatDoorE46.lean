
import Derived.Test.YtmddchceacmopaaGreatDoorE45
set_option linter.unusedVariables false
set_option linter.unusedSimpArgs false
namespace Go.Proofs.YtmddchceacmopaaGreatDoor
open Go Go.RowKit
theorem Na {RL:fe} {c:Nat} (h:∀p∈RL,p.1.length≤c):∀k,k≤RL.length→jS RL k≤k*c
 |0,_=>by simp [jS]
 |k+1,hk=>by
  have h1:=Na h k (by omega)
  have h2:=h _ (List.getElem_mem (show k < RL.length by omega))
  rw [sF (show k < RL.length by omega),Nat.succ_mul]
  omega
theorem V3 {LB:LS} {RL:fe} {S:bD} (h8:eY S) (hb:LB.map Prod.fst=S.bnd.map (bJ S.w)) (Jd:RL.length=S.ins.length) (hrows:∀i (h:i < RL.length),RL[i].1.map fJ=aT (aR S i)):VW (S.w:Int) LB RL:=by
 have hok:=h8.ok
 have hrl:∀{i:Nat} (hi:i < RL.length),RL[i].1.length=(aR S i).length:=fun {i} hi=>by have h9:=congrArg List.length (hrows i hi);rw [List.length_map,dK] at h9;exact h9
 have hlb:LB.length=S.ins.length:=by have h9:=congrArg List.length hb;rw [List.length_map,List.length_map,hok.lb] at h9;exact h9
 have hlen:∀p∈RL,p.1.length≤32:=fun p hp=>by
  obtain ⟨i,hi,rfl⟩:=List.getElem_of_mem hp
  have h1:=(hok.row i).len
  have h2:=hrl hi
  have h3:=h8.n8
  omega
 refine ⟨⟨by omega,by have:=hok.w;omega⟩,⟨by rw [Jd];exact hok.n1,by rw [Jd];exact hok.n2⟩,by rw [hlb,Jd],fun p hp=>?_,fun k hk=>⟨?_,?_,fun q hq=>?_⟩⟩
 ·have h1:p.1∈LB.map Prod.fst:=List.mem_map_of_mem hp
  rw [hb] at h1
  obtain ⟨m,hm,he⟩:=List.mem_map.1 h1
  rw [←he]
  exact ⟨dI hok.w (hok.bnd m hm),rfl⟩
 ·have h1:=Na hlen (k+1) hk
  have h2:=Jd
  have h3:=h8.n8
  have h4:(k+1)*32≤32*32:=Nat.mul_le_mul_right 32 (by omega)
  omega
 ·have hro:=hok.row k
  have hr:=hrows k hk
  have hl:=hrl hk
  intro i hi
  have hi2:i < RL[k].1.length:=by simpa [dZ] using hi
  have hi3:i < (aR S k).length:=by omega
  have h1:=mJ hr hi2 hi3
  have e1:(dZ RL[k].1)[i]=((aR S k)[i].1:Int):=by
   simp only [dZ,List.getElem_map]
   exact congrArg Prod.fst h1
  have h2:=hro.lt _ (List.getElem_mem hi3)
  rw [e1,Jd]
  refine ⟨by omega,by omega,fun h0=>?_⟩
  have hj3:i - 1 < (aR S k).length:=by omega
  have hj2:i - 1 < RL[k].1.length:=by omega
  have h5:=mJ hr hj2 hj3
  have e2:(dZ RL[k].1)[i - 1]'(by simp [dZ];omega)=((aR S k)[i - 1].1:Int):=by
   simp only [dZ,List.getElem_map]
   exact congrArg Prod.fst h5
  rw [e2]
  have h6:=Ar hro.uq hj3 hi3 (by omega)
  omega
 have hro:=hok.row k
 have hr:=hrows k hk
 have hl:=hrl hk
 obtain ⟨i,hi,rfl⟩:=List.getElem_of_mem hq
 have hi3:i < (aR S k).length:=by omega
 have h1:=mJ hr hi hi3
 have h2:RL[k].1[i].2.1=bM (aR S k)[i].2:=congrArg Prod.snd h1
 have h3:=hro.jX _ (List.getElem_mem hi3)
 rw [h2]
 exact ⟨kg h3.1,by simp only [bM,bJ,h3.2]⟩
theorem V4 {w:World} {base lim:Nat} {vb vi:Value} {LB:LS} {RL:fe} {S:bD} (h:MW w base lim vb vi LB RL S):VW (S.w:Int) LB RL:=V3 h.ok h.bnd h.len h.rows

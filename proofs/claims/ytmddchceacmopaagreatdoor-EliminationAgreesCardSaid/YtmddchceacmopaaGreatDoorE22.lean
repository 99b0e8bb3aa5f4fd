
import Derived.Test.YtmddchceacmopaaGreatDoorE21
set_option linter.unusedVariables false
set_option linter.unusedSimpArgs false
namespace Go.Proofs.YtmddchceacmopaaGreatDoor
open Go Go.RowKit
def rH (R:bD) (n t j:Nat):bP:=if j < t then pU R n j else aR R j
def rJ (R:bD) (n t j:Nat):Nat:=if j < t then pV R n j else dA R.bnd j
theorem Oj {R:bD} {n t:Nat} (h:¬(t≠n∧oh (aR R t) n < (aR R t).length)) (j:Nat):rH R n (t+1) j=rH R n t j:=by
 unfold rH
 by_cases e:j=t
 ·subst e
  rw [if_pos (by omega),if_neg (by omega)]
  unfold pU
  rw [dif_neg h]
 exact rY
theorem Ol {R:bD} {n t:Nat} (h:¬(t≠n∧oh (aR R t) n < (aR R t).length)) (j:Nat):rJ R n (t+1) j=rJ R n t j:=by
 unfold rJ
 by_cases e:j=t
 ·subst e
  rw [if_pos (by omega),if_neg (by omega)]
  unfold pV
  rw [dif_neg h]
 exact rY
theorem Dw (R:bD) (n t:Nat):rH R n t n=aR R n:=by
 unfold rH
 split
 ·unfold pU
  rw [dif_neg (fun h=>h.1 rfl)]
 rfl
theorem Dx (R:bD) (n t:Nat):rJ R n t n=dA R.bnd n:=by
 unfold rJ
 split
 ·unfold pV
  rw [dif_neg (fun h=>h.1 rfl)]
 rfl
theorem MV (R:bD) (n t:Nat):rH R n t t=aR R t:=by unfold rH;rw [if_neg (by omega)]
theorem MX (R:bD) (n t:Nat):rJ R n t t=dA R.bnd t:=by unfold rJ;rw [if_neg (by omega)]
structure uG (R:bD) (n t N:Nat) (LB:LS) (RL:fe):Prop where
 lb:N=LB.length
 lr:N=RL.length
 b:∀j,j < N→(LB[j]?).map Prod.fst=some (bJ R.w (rJ R n t j))
 r:∀j,j < N→(RL[j]?).map (fun p=>p.1.map fJ)=some (aT (rH R n t j))
theorem uG.skip {R:bD} {n t N:Nat} {LB:LS} {RL:fe} (h:uG R n t N LB RL) (hs:¬(t≠n∧oh (aR R t) n < (aR R t).length)):uG R n (t+1) N LB RL:=
 ⟨h.lb,h.lr,fun j hj=>by rw [Ol hs];exact h.b j hj,fun j hj=>by rw [Oj hs];exact h.r j hj⟩
theorem uG.row {R:bD} {n t N j:Nat} {LB:LS} {RL:fe} (h:uG R n t N LB RL) (hj:j < N):∃(L:LA) (v:Value),(∃hjR:j < RL.length,RL[j]=(L,v))∧L.map fJ=aT (rH R n t j):=by
 have h1:=h.r j hj
 have hj2:j < RL.length:=by rw [←h.lr];exact hj
 rw [List.getElem?_eq_getElem hj2] at h1
 exact ⟨RL[j].1,RL[j].2,⟨hj2,rfl⟩,Option.some.inj h1⟩
theorem uG.set {R:bD} {n t N j:Nat} {LB:LS} {RL:fe} (h:uG R n t N LB RL) (hj:j < N):∃(v:Value),∃hjB:j < LB.length,LB[j]=(bJ R.w (rJ R n t j),v):=by
 have h1:=h.b j hj
 have hj2:j < LB.length:=by rw [←h.lb];exact hj
 rw [List.getElem?_eq_getElem hj2] at h1
 exact ⟨LB[j].2,hj2,Prod.ext (Option.some.inj h1) rfl⟩
theorem uG.start {R:bD} {w:World} {base lim n N:Nat} {vb vi:Value} {LB:LS} {RL:fe} (h:MW w base lim vb vi LB RL R) (hN:N=R.ins.length):uG R n 0 N LB RL:=by
 have hlb:N=LB.length:=by rw [h.Xa,hN]
 have hlr:N=RL.length:=by rw [h.len,hN]
 refine ⟨hlb,hlr,fun j hj=>?_,fun j hj=>?_⟩
 ·have ht2:j < R.bnd.length:=by rw [h.ok.ok.lb,←hN];exact hj
  rw [←List.getElem?_map,h.bnd,List.getElem?_map,List.getElem?_eq_getElem ht2]
  unfold rJ
  rw [if_neg (Nat.not_lt_zero _),kI ht2]
  rfl
 have hj2:j < RL.length:=by omega
 rw [List.getElem?_eq_getElem hj2]
 unfold rH
 rw [if_neg (Nat.not_lt_zero _),Option.map_some,h.rows j hj2]
theorem uG.done {R:bD} {w:World} {base lim n N:Nat} {vb vi:Value} {LB:LS} {RL:fe} (h:uG R n N N LB RL) (hx:jk w base lim vb vi LB RL) (hN:N=R.ins.length) (hok:eY (qQ R n)):MW w base lim vb vi LB RL (qQ R n):=by
 refine ⟨hx,hok,?_,?_,fun j hj=>?_⟩
 ·refine List.ext_getElem? (fun j=>?_)
  rw [List.getElem?_map]
  rcases Nat.lt_or_ge j N with hj|hj
  ·rw [h.b j hj]
   unfold rJ qQ
   rw [if_pos hj]
   simp [←hN,hj]
  rw [List.getElem?_eq_none (by rw [←h.lb];exact hj),List.getElem?_eq_none (by simp [qQ,←hN];exact hj)]
  rfl
 ·rw [←h.lr];simp [qQ,hN]
 have hj2:j < N:=by rw [h.lr];exact hj
 have h1:=h.r j hj2
 rw [List.getElem?_eq_getElem hj,Option.map_some,Option.some.injEq] at h1
 rw [h1]
 unfold rH
 rw [if_pos hj2]
 unfold aR qQ
 simp [←hN,hj2]

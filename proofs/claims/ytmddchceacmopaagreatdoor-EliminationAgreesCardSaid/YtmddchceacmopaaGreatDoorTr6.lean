
import Derived.Test.YtmddchceacmopaaGreatDoorSetA
import Derived.Laws.StructEq
import Derived.Test.YtmddchceacmopaaGreatDoorHeld
set_option linter.unusedVariables false
set_option linter.unusedSimpArgs false
namespace Go.Proofs.YtmddchceacmopaaGreatDoor
open Go Go.RowKit
theorem iX {p:Prop} (h:p:=by ((go_split_ands;refine ⟨?_,?_,?_,?_,?_,?_,?_,?_,?_,?_⟩;(first|((with_reducible refine gZ ?_ ?_);(first|(with_reducible assumption)|(with_reducible exact bf aF (by with_reducible assumption)));(exact Nat.ne_of_lt ku))|(with_reducible assumption)|(with_reducible exact keepD (by with_reducible assumption))|(with_reducible exact aO (by with_reducible assumption))|(with_reducible exact keepD (aO (by with_reducible assumption)))|(with_reducible exact aO (keepD (by with_reducible assumption)))|(with_reducible exact bf aF (by with_reducible assumption))|(with_reducible exact aO (bf aF (by with_reducible assumption))));(first|((with_reducible refine gZ ?_ ?_);(first|(with_reducible assumption)|(with_reducible exact bf aF (by with_reducible assumption)));(exact Nat.ne_of_lt ku))|(with_reducible assumption)|(with_reducible exact keepD (by with_reducible assumption))|(with_reducible exact aO (by with_reducible assumption))|(with_reducible exact keepD (aO (by with_reducible assumption)))|(with_reducible exact aO (keepD (by with_reducible assumption)))|(with_reducible exact bf aF (by with_reducible assumption))|(with_reducible exact aO (bf aF (by with_reducible assumption))));(first|((with_reducible refine gZ ?_ ?_);(first|(with_reducible assumption)|(with_reducible exact bf aF (by with_reducible assumption)));(exact Nat.ne_of_lt ku))|(with_reducible assumption)|(with_reducible exact keepD (by with_reducible assumption))|(with_reducible exact aO (by with_reducible assumption))|(with_reducible exact keepD (aO (by with_reducible assumption)))|(with_reducible exact aO (keepD (by with_reducible assumption)))|(with_reducible exact bf aF (by with_reducible assumption))|(with_reducible exact aO (bf aF (by with_reducible assumption))));(first|((with_reducible refine gZ ?_ ?_);(first|(with_reducible assumption)|(with_reducible exact bf aF (by with_reducible assumption)));(exact Nat.ne_of_lt ku))|(with_reducible assumption)|(with_reducible exact keepD (by with_reducible assumption))|(with_reducible exact aO (by with_reducible assumption))|(with_reducible exact keepD (aO (by with_reducible assumption)))|(with_reducible exact aO (keepD (by with_reducible assumption)))|(with_reducible exact bf aF (by with_reducible assumption))|(with_reducible exact aO (bf aF (by with_reducible assumption))));(first|((with_reducible refine gZ ?_ ?_);(first|(with_reducible assumption)|(with_reducible exact bf aF (by with_reducible assumption)));(exact Nat.ne_of_lt ku))|(with_reducible assumption)|(with_reducible exact keepD (by with_reducible assumption))|(with_reducible exact aO (by with_reducible assumption))|(with_reducible exact keepD (aO (by with_reducible assumption)))|(with_reducible exact aO (keepD (by with_reducible assumption)))|(with_reducible exact bf aF (by with_reducible assumption))|(with_reducible exact aO (bf aF (by with_reducible assumption))));(first|((with_reducible refine gZ ?_ ?_);(first|(with_reducible assumption)|(with_reducible exact bf aF (by with_reducible assumption)));(exact Nat.ne_of_lt ku))|(with_reducible assumption)|(with_reducible exact keepD (by with_reducible assumption))|(with_reducible exact aO (by with_reducible assumption))|(with_reducible exact keepD (aO (by with_reducible assumption)))|(with_reducible exact aO (keepD (by with_reducible assumption)))|(with_reducible exact bf aF (by with_reducible assumption))|(with_reducible exact aO (bf aF (by with_reducible assumption))));(first|((with_reducible refine gZ ?_ ?_);(first|(with_reducible assumption)|(with_reducible exact bf aF (by with_reducible assumption)));(exact Nat.ne_of_lt ku))|(with_reducible assumption)|(with_reducible exact keepD (by with_reducible assumption))|(with_reducible exact aO (by with_reducible assumption))|(with_reducible exact keepD (aO (by with_reducible assumption)))|(with_reducible exact aO (keepD (by with_reducible assumption)))|(with_reducible exact bf aF (by with_reducible assumption))|(with_reducible exact aO (bf aF (by with_reducible assumption))));(first|((with_reducible refine gZ ?_ ?_);(first|(with_reducible assumption)|(with_reducible exact bf aF (by with_reducible assumption)));(exact Nat.ne_of_lt ku))|(with_reducible assumption)|(with_reducible exact keepD (by with_reducible assumption))|(with_reducible exact aO (by with_reducible assumption))|(with_reducible exact keepD (aO (by with_reducible assumption)))|(with_reducible exact aO (keepD (by with_reducible assumption)))|(with_reducible exact bf aF (by with_reducible assumption))|(with_reducible exact aO (bf aF (by with_reducible assumption))));(first|((with_reducible refine gZ ?_ ?_);(first|(with_reducible assumption)|(with_reducible exact bf aF (by with_reducible assumption)));(exact Nat.ne_of_lt ku))|(with_reducible assumption)|(with_reducible exact keepD (by with_reducible assumption))|(with_reducible exact aO (by with_reducible assumption))|(with_reducible exact keepD (aO (by with_reducible assumption)))|(with_reducible exact aO (keepD (by with_reducible assumption)))|(with_reducible exact bf aF (by with_reducible assumption))|(with_reducible exact aO (bf aF (by with_reducible assumption))));(first|((with_reducible refine gG ?_ ?_);(first|(with_reducible assumption)|(with_reducible exact Ext.af (by with_reducible assumption) aF));(exact Nat.le_refl _))|(with_reducible assumption)|(with_reducible exact Ext.drew (by with_reducible assumption))|(with_reducible exact Ext.alloc (by with_reducible assumption) _)|(with_reducible exact Ext.drew (Ext.alloc (by with_reducible assumption) _))|(with_reducible exact Ext.af (by with_reducible assumption) aF)|(with_reducible exact Ext.alloc (Ext.af (by with_reducible assumption) aF) _))))):p:=h
theorem pE {p:Prop} (h:p:=by (go_split_ands;refine ⟨?_,?_,?_,?_,?_,?_,?_,?_,?_,?_⟩;(first|((with_reducible refine gZ ?_ ?_);(first|(with_reducible assumption)|(with_reducible exact bf aF (by with_reducible assumption)));(exact Nat.ne_of_lt ku))|(with_reducible assumption)|(with_reducible exact keepD (by with_reducible assumption))|(with_reducible exact aO (by with_reducible assumption))|(with_reducible exact keepD (aO (by with_reducible assumption)))|(with_reducible exact aO (keepD (by with_reducible assumption)))|(with_reducible exact bf aF (by with_reducible assumption))|(with_reducible exact aO (bf aF (by with_reducible assumption))));(first|((with_reducible refine gZ ?_ ?_);(first|(with_reducible assumption)|(with_reducible exact bf aF (by with_reducible assumption)));(exact Nat.ne_of_lt ku))|(with_reducible assumption)|(with_reducible exact keepD (by with_reducible assumption))|(with_reducible exact aO (by with_reducible assumption))|(with_reducible exact keepD (aO (by with_reducible assumption)))|(with_reducible exact aO (keepD (by with_reducible assumption)))|(with_reducible exact bf aF (by with_reducible assumption))|(with_reducible exact aO (bf aF (by with_reducible assumption))));(first|((with_reducible refine gZ ?_ ?_);(first|(with_reducible assumption)|(with_reducible exact bf aF (by with_reducible assumption)));(exact Nat.ne_of_lt ku))|(with_reducible assumption)|(with_reducible exact keepD (by with_reducible assumption))|(with_reducible exact aO (by with_reducible assumption))|(with_reducible exact keepD (aO (by with_reducible assumption)))|(with_reducible exact aO (keepD (by with_reducible assumption)))|(with_reducible exact bf aF (by with_reducible assumption))|(with_reducible exact aO (bf aF (by with_reducible assumption))));(first|((with_reducible refine gZ ?_ ?_);(first|(with_reducible assumption)|(with_reducible exact bf aF (by with_reducible assumption)));(exact Nat.ne_of_lt ku))|(with_reducible assumption)|(with_reducible exact keepD (by with_reducible assumption))|(with_reducible exact aO (by with_reducible assumption))|(with_reducible exact keepD (aO (by with_reducible assumption)))|(with_reducible exact aO (keepD (by with_reducible assumption)))|(with_reducible exact bf aF (by with_reducible assumption))|(with_reducible exact aO (bf aF (by with_reducible assumption))));(first|((with_reducible refine gZ ?_ ?_);(first|(with_reducible assumption)|(with_reducible exact bf aF (by with_reducible assumption)));(exact Nat.ne_of_lt ku))|(with_reducible assumption)|(with_reducible exact keepD (by with_reducible assumption))|(with_reducible exact aO (by with_reducible assumption))|(with_reducible exact keepD (aO (by with_reducible assumption)))|(with_reducible exact aO (keepD (by with_reducible assumption)))|(with_reducible exact bf aF (by with_reducible assumption))|(with_reducible exact aO (bf aF (by with_reducible assumption))));(first|((with_reducible refine gZ ?_ ?_);(first|(with_reducible assumption)|(with_reducible exact bf aF (by with_reducible assumption)));(exact Nat.ne_of_lt ku))|(with_reducible assumption)|(with_reducible exact keepD (by with_reducible assumption))|(with_reducible exact aO (by with_reducible assumption))|(with_reducible exact keepD (aO (by with_reducible assumption)))|(with_reducible exact aO (keepD (by with_reducible assumption)))|(with_reducible exact bf aF (by with_reducible assumption))|(with_reducible exact aO (bf aF (by with_reducible assumption))));(first|((with_reducible refine gZ ?_ ?_);(first|(with_reducible assumption)|(with_reducible exact bf aF (by with_reducible assumption)));(exact Nat.ne_of_lt ku))|(with_reducible assumption)|(with_reducible exact keepD (by with_reducible assumption))|(with_reducible exact aO (by with_reducible assumption))|(with_reducible exact keepD (aO (by with_reducible assumption)))|(with_reducible exact aO (keepD (by with_reducible assumption)))|(with_reducible exact bf aF (by with_reducible assumption))|(with_reducible exact aO (bf aF (by with_reducible assumption))));(first|((with_reducible refine gZ ?_ ?_);(first|(with_reducible assumption)|(with_reducible exact bf aF (by with_reducible assumption)));(exact Nat.ne_of_lt ku))|(with_reducible assumption)|(with_reducible exact keepD (by with_reducible assumption))|(with_reducible exact aO (by with_reducible assumption))|(with_reducible exact keepD (aO (by with_reducible assumption)))|(with_reducible exact aO (keepD (by with_reducible assumption)))|(with_reducible exact bf aF (by with_reducible assumption))|(with_reducible exact aO (bf aF (by with_reducible assumption))));(first|((with_reducible refine gZ ?_ ?_);(first|(with_reducible assumption)|(with_reducible exact bf aF (by with_reducible assumption)));(exact Nat.ne_of_lt ku))|(with_reducible assumption)|(with_reducible exact keepD (by with_reducible assumption))|(with_reducible exact aO (by with_reducible assumption))|(with_reducible exact keepD (aO (by with_reducible assumption)))|(with_reducible exact aO (keepD (by with_reducible assumption)))|(with_reducible exact bf aF (by with_reducible assumption))|(with_reducible exact aO (bf aF (by with_reducible assumption))));(first|((with_reducible refine gG ?_ ?_);(first|(with_reducible assumption)|(with_reducible exact Ext.af (by with_reducible assumption) aF));(exact Nat.le_refl _))|(with_reducible assumption)|(with_reducible exact Ext.drew (by with_reducible assumption))|(with_reducible exact Ext.alloc (by with_reducible assumption) _)|(with_reducible exact Ext.drew (Ext.alloc (by with_reducible assumption) _))|(with_reducible exact Ext.af (by with_reducible assumption) aF)|(with_reducible exact Ext.alloc (Ext.af (by with_reducible assumption) aF) _)))):p:=h
theorem yX {p:Prop} (h:p:=by
 go_enter Tryz.func119,Tryz.ntmps119
 go_wp2_with (go_at_call 139;refine (Ph _ _).mono ?_;rintro e' w1 ⟨rfl,rfl⟩)
 go_ret
 exact ⟨rfl,rfl⟩):p:=h
theorem yY {p:Prop} (h:p:=by
 go_enter Tryz.func110,Tryz.ntmps110
 exact nG):p:=h
theorem Gy {p:Prop} (h:p:=by
 go_enter Tryz.func78,Tryz.ntmps78
 go_wp2_with fail
 refine (eH _ r.gen _ (HG.aj ((Ext.refl _ _).alloc _))).mono ?_
 rintro e1 w1 ⟨rfl,hx1⟩
 rw [h1]
 have hxa:Ext No W w1:=((Ext.refl _ _).alloc _).af hx1
 have hB:=hx1.blk (ah (w:=W) rfl) ax
 have cB:=cellOf hB
 clear hx1
 go_wp2_with fail
 refine (eH _ r.kill _ (HK.aj hxa)).mono ?_
 exact Fw):p:=h
def qK (a b:Int):Int:=if a < b then -1 else if b < a then 1 else 0
theorem Ph (a:Int) (W:World):Calls Tryz.prog 139 #[.int .i64 a] W fun e w'=>e= .returned (.bool false)∧W=w':=by
 go_enter Tryz.func139,Tryz.ntmps139
 exact ko
theorem MQ (a b:Int) (W:World):Calls Tryz.prog 119 #[.int .i64 a,.int .i64 b] W fun e w'=>e= .returned (.int .i64 (qK a b))∧W=w':=by
 unfold qK
 by_cases h1:a < b
 ·rw [if_pos h1]
  exact yX
 by_cases h2:b < a
 ·rw [if_neg h1,if_pos h2]
  exact yX
 rw [if_neg h1,if_neg h2]
 exact yX
def ZJ (a b:Int):Int:=if a=0 then b else a
theorem X3 (a b:Int) (g:Nat) (W:World) (h0:W.cell? ⟨g,0,none⟩=some (.int .i64 a)) (h1:W.cell? ⟨g,1,none⟩=some (.int .i64 b)):
  Calls Tryz.prog 136 #[.slice (some ⟨g,0,none⟩) 2 2] W fun e w'=>e= .returned (.int .i64 (ZJ a b))∧W=w':=by
 unfold ZJ
 by_cases ha:a=0
 ·rw [if_pos ha]
  subst ha
  by_cases hb:b=0
  ·subst hb
   go_enter Tryz.func136,Tryz.ntmps136
   go_wp2
   go_loop [8] (fun i=>i= .int .i64 0∨i= .int .i64 1∨i= .int .i64 2) (fun i=>2 - (intOf i).toNat)
   case atStart=>exact .inl rfl
   rcases hrel with rfl|rfl|rfl
   ·go_wp2
    go_round
    case rel=>exact .inr (.inl rfl)
    case measure=>simp [intOf]
   ·go_wp2
    go_round
    case rel=>exact .inr (.inr rfl)
    case measure=>simp [intOf]
   exact ko
  have hb':(b != 0)=true:=by simp [hb]
  clear hb
  go_enter Tryz.func136,Tryz.ntmps136
  go_wp2
  go_loop [8] (fun i=>i= .int .i64 0∨i= .int .i64 1) (fun i=>2 - (intOf i).toNat)
  case atStart=>exact .inl rfl
  rcases hrel with rfl|rfl
  ·go_wp2
   go_round
   case rel=>exact .inr rfl
   case measure=>simp [intOf]
  exact ko
 rw [if_neg ha]
 have ha':(a != 0)=true:=by simp [ha]
 clear ha
 go_enter Tryz.func136,Tryz.ntmps136
 go_wp2
 go_loop [8] (fun i=>i= .int .i64 0) (fun i=>2 - (intOf i).toNat)
 case atStart=>exact rfl
 subst hrel
 exact ko
end Go.Proofs.YtmddchceacmopaaGreatDoor
namespace Go.Proofs.YtmddchceacmopaaGreatDoor
open Go Go.RowKit
def Jb (c:Int×Int):List Value:=[.int .i64 c.1,.int .i64 c.2]
def iZ (l:List (Int×Int)):List Value:=l.flatMap Jb
def fo (M:Nat→Prop) (W:World) (sl:Value) (l:List (Int×Int)):Prop:=Row M W 2 sl l.length (iZ l)
theorem flat_get {α:Type} (f:α→List Value) (n:Nat) (hf:∀a,(f a).length=n):∀(l:List α) (i j:Nat) (hi:i < l.length),j < n→(l.flatMap f)[n*i+j]? =(f l[i])[j]? :=by
 intro l
 induction l with
 |nil=>intro i j hi;simp at hi
 |cons a l ih=>
  intro i j hi hj
  rw [List.flatMap_cons]
  cases i with
  |zero=>simp only [Nat.mul_zero,Nat.zero_add,List.getElem_cons_zero];rw [List.getElem?_append_left (by rw [hf];exact hj)]
  |succ i=>
   rw [List.getElem?_append_right (by rw [hf,Nat.mul_add];omega),hf]
   exact EO
theorem sO (l:List (Int×Int)) (i j:Nat) (hi:i < l.length) (hj:j < 2):(iZ l)[i*2+j]? =(Jb l[i])[j]? :=by
 rw [Nat.mul_comm i 2];exact flat_get _ 2 (fun _=>rfl) l i j hi hj
theorem fo.at {M:Nat→Prop} {W:World} {sl:Value} {l:List (Int×Int)} (h:fo M W sl l) {i:Nat} (hi:i < l.length):∃b off cap,sl= .slice (some ⟨b,off,none⟩) l.length cap∧b < W.heap.size∧¬M b∧
  ∀j (hj:j < l.length),W.cell? ⟨b,off+j*2,none⟩=some (.int .i64 l[j].1)∧W.cell? ⟨b,off+j*2+1,none⟩=some (.int .i64 l[j].2):=by
 obtain ⟨b,off,cap,h1,h2,h3,h4⟩:=Row.shape h (by omega)
 exact ⟨b,off,cap,h1,h2,h3,fun j hj=>⟨h4 (j*2) _ (sO l j 0 hj (by omega)),h4 (j*2+1) _ (sO l j 1 hj (by omega))⟩⟩
def iM (a b:Int×Int):Int:=ZJ (qK a.1 b.1) (qK a.2 b.2)
def vT (z:Int) (W:World) (e:Ending) (w':World):Prop:=e= .returned (.int .i64 z)∧Ext No W w'
set_option maxRecDepth 100000 in
set_option maxHeartbeats 1000000 in
theorem zG (a b:Int×Int) (W:World):Calls Tryz.prog 111 #[.agg #[.int .i64 a.1,.int .i64 a.2],.agg #[.int .i64 b.1,.int .i64 b.2]] W (vT (iM a b) W):=by
 obtain ⟨a1,a2⟩:=a
 obtain ⟨b1,b2⟩:=b
 simp only
 go_enter Tryz.func111,Tryz.ntmps111
 go_wp2_with fail
 have hA:=ay (o:= .cells #[.int .i64 b1,.int .i64 b2] 75) (ah (w:=W) (o:= .cells #[.int .i64 a1,.int .i64 a2] 75) rfl)
 have hB:=ah (n:=W.heap.size+1) (w:=W.alloc (.cells #[.int .i64 a1,.int .i64 a2] 75)) (o:= .cells #[.int .i64 b1,.int .i64 b2] 75) (by simp)
 have hx:Ext No W ((W.alloc (.cells #[.int .i64 a1,.int .i64 a2] 75)).alloc (.cells #[.int .i64 b1,.int .i64 b2] 75)):=((Ext.refl _ _).alloc _).alloc _
 generalize World.alloc (World.alloc W _) _=W2 at*
 have l0:=cellOf hA 0
 have l1:=cellOf hA 1
 have l2:=cellOf hB 0
 have l3:=cellOf hB 1
 simp only [List.getElem?_toArray,List.getElem?_cons_zero,List.getElem?_cons_succ] at l0 l1 l2 l3
 go_region_held3 (fun w'=>w'.cell? ⟨W.heap.size,0,none⟩=some (.int .i64 a1)∧w'.cell? ⟨W.heap.size,1,none⟩=some (.int .i64 a2)∧w'.cell? ⟨W.heap.size+1,0,none⟩=some (.int .i64 b1)∧w'.cell? ⟨W.heap.size+1,1,none⟩=some (.int .i64 b2))
  ((go_split_ands;refine ⟨?_,?_,?_,?_⟩<;>(first|((with_reducible refine gZ ?_ ?_);(first|(with_reducible assumption)|(with_reducible exact bf aF (by with_reducible assumption)));(exact Nat.ne_of_lt ku))|(with_reducible assumption)|(with_reducible exact keepD (by with_reducible assumption))|(with_reducible exact aO (by with_reducible assumption))|(with_reducible exact keepD (aO (by with_reducible assumption)))|(with_reducible exact aO (keepD (by with_reducible assumption)))|(with_reducible exact bf aF (by with_reducible assumption))|(with_reducible exact aO (bf aF (by with_reducible assumption))))))
  (first|((go_at_call 119);(with_reducible refine (MQ _ _ _).mono ?_);(rintro e' w1 ⟨rfl,rfl⟩))|((go_at_call 136);(with_reducible refine (X3 (qK a1 b1) (qK a2 b2) _ _ ?_ ?_).mono ?_);(exact cellOf (ah (by simp)) 0);(exact cellOf (ah (by simp)) 1);(rintro e' w1 ⟨rfl,rfl⟩)))
 all_goals
  go_wp2
  go_ret
  exact ⟨rfl,by (repeat (first|(with_reducible exact Ext.refl _ _)|(with_reducible assumption)|(with_reducible refine Ext.drewN ?_ _)|(with_reducible refine Ext.drew ?_)|(with_reducible refine Ext.alloc ?_ _)))⟩
end Go.Proofs.YtmddchceacmopaaGreatDoor
namespace Go.Proofs.YtmddchceacmopaaGreatDoor
open Go Go.RowKit
def IX (l:List (Int×Int)) (c:Int×Int):Bool:=decide (c∈l)
theorem yL {l:List (Int×Int)} {c:Int×Int} {k:Nat} (hk:k < l.length) (h:l[k]=c):IX l c=true:=decide_eq_true (h▸List.getElem_mem hk)
theorem Br {l:List (Int×Int)} {c:Int×Int} (h:∀j (hj:j < l.length),l[j]≠c):IX l c=false:=decide_eq_false (fun hm=>by
 obtain ⟨j,hj,he⟩:=List.getElem_of_mem hm
 exact h j hj he)
end Go.Proofs.YtmddchceacmopaaGreatDoor
namespace Go.Proofs.YtmddchceacmopaaGreatDoor
open Go Go.RowKit
structure cK where
 w:Nat
 gen:Nat
 kill:Nat
 copies:List (Int×Int)
structure eO (t:cK):Prop where
 w:t.w≤256
 gen:t.gen < 2 ^ t.w
 kill:t.kill < 2 ^ t.w
 len:t.copies.length≤64
 inr:∀i (h:i < t.copies.length),mh t.w t.copies[i].1=true∧mh t.w t.copies[i].2=true
 sorted:∀i (h:i+1 < t.copies.length),iM t.copies[i] t.copies[i+1] < 0
structure dF (M:Nat→Prop) (W:World) (sg sk sc:Value) (t:cK):Prop where
 gen:aG M W sg t.w t.gen
 kill:aG M W sk t.w t.kill
 copies:fo M W sc t.copies
 ok:eO t
section
variable {M M':Nat→Prop} {W W':World} {sg sk sc:Value} {t:cK}
theorem dF.ext (h:dF M W sg sk sc t) (hx:Ext M' W W') (hm:∀i,i < W.heap.size→M' i→M i):dF M W' sg sk sc t:=⟨h.gen.ext hx hm,h.kill.ext hx hm,Row.ext h.copies hx hm,h.ok⟩
theorem dF.aj (h:dF M W sg sk sc t) (hx:Ext No W W'):dF M W' sg sk sc t:=h.ext hx (fun _ _ x=>x.elim)
theorem dF.mono (h:dF M W sg sk sc t) (hm:∀i,i < W.heap.size→M' i→M i):dF M' W sg sk sc t:=⟨h.gen.mono hm,h.kill.mono hm,Row.mono h.copies hm,h.ok⟩
theorem dF.no (h:dF M W sg sk sc t):dF No W sg sk sc t:=h.mono (fun _ _ x=>x.elim)
end
def shaped (v:Value):Prop:=∃a n c,v= .slice a n c
theorem rG (a:Option Addr) (n c:Nat):shaped (.slice a n c):=⟨a,n,c,rfl⟩
theorem aG.shaped {M:Nat→Prop} {W:World} {sl:Value} {w m:Nat} (h:aG M W sl w m):shaped sl:=by
 obtain ⟨a,c,h⟩:=h.slice;exact ⟨a,_,c,h⟩
theorem fo.shaped {M:Nat→Prop} {W:World} {sl:Value} {l:List (Int×Int)} (h:fo M W sl l):shaped sl:=by
 obtain ⟨a,c,h⟩:=Row.slice h;exact ⟨a,_,c,h⟩
theorem mP (wg wk:Int) (sg sk sc:Value) (b:Int) (W:World) (hg:shaped sg) (hk:shaped sk) (hc:shaped sc):Calls Tryz.prog 110 #[.agg #[.int .i64 (wg:Int),sg,.int .i64 (wk:Int),sk,sc],.int .i64 b] W (bZ (mh wg b) W):=by
 obtain ⟨ag,ng,cg,rfl⟩:=hg
 obtain ⟨ak,nk,ck,rfl⟩:=hk
 obtain ⟨ac,nc,cc,rfl⟩:=hc
 by_cases h0:0≤b
 ·by_cases h1:b < wg
  ·rw [show mh wg b=true from decide_eq_true ⟨h0,h1⟩]
   exact yY
  rw [show mh wg b=false from decide_eq_false (fun h=>h1 h.2)]
  exact yY
 rw [show mh wg b=false from decide_eq_false (fun h=>h0 h.1)]
 exact yY
def iK (t:cK) (a b:Int):Bool:=(decide (a=b)&& !gz t.w t.kill b)||IX t.copies (a,b)
end Go.Proofs.YtmddchceacmopaaGreatDoor
namespace Go.Proofs.YtmddchceacmopaaGreatDoor
open Go Go.RowKit
structure dS where
 gen:bC
 kill:bC
 copies:List (Int×Int)
structure bN (M:Nat→Prop) (W:World) (sg sk sc:Value) (r:dS):Prop where
 gen:aU M W sg r.gen.words
 kill:aU M W sk r.kill.words
 copies:fo M W sc r.copies
section
variable {M M':Nat→Prop} {W W':World} {sg sk sc:Value} {r:dS}
theorem bN.ext (h:bN M W sg sk sc r) (hx:Ext M' W W') (hm:∀i,i < W.heap.size→M' i→M i):bN M W' sg sk sc r:=⟨h.gen.ext hx hm,h.kill.ext hx hm,Row.ext h.copies hx hm⟩
theorem bN.aj (h:bN M W sg sk sc r) (hx:Ext No W W'):bN M W' sg sk sc r:=h.ext hx (fun _ _ x=>x.elim)
theorem bN.mono (h:bN M W sg sk sc r) (hm:∀i,i < W.heap.size→M' i→M i):bN M' W sg sk sc r:=⟨h.gen.mono hm,h.kill.mono hm,Row.mono h.copies hm⟩
theorem bN.no (h:bN M W sg sk sc r):bN No W sg sk sc r:=h.mono (fun _ _ x=>x.elim)
end
theorem aU.shaped {M:Nat→Prop} {W:World} {sl:Value} {l:List Nat} (h:aU M W sl l):shaped sl:=by
 obtain ⟨a,c,h⟩:=h.slice;exact ⟨a,_,c,h⟩
def oG (wg:Int) (l:List (Int×Int)) (i:Nat) (h:i < l.length):Bool:=
 mh wg l[i].1&&(mh wg l[i].2&&(decide (i=0)||decide (iM (l[i - 1]'(by omega)) l[i] < 0)))
def nY (r:dS):Bool:=fH r.gen&&(fH r.kill&&(decide (r.gen.width=r.kill.width)&&decide (r.copies.length≤64)))
def gu (r:dS):Bool:=nY r&&decide (∀i (h:i < r.copies.length),oG r.gen.width r.copies i h=true)
theorem zx {r:dS} (h:nY r=false):gu r=false:=by unfold gu;rw [h];rfl
theorem jH {r:dS} (k:Nat) (hk:k < r.copies.length) (h:oG r.gen.width r.copies k hk=false):gu r=false:=by
 unfold gu
 rw [decide_eq_false (fun hh=>by have:=hh k hk;rw [h] at this;cases this),Bool.and_false]
theorem vv {r:dS} (h:nY r=true) (h2:∀i (h:i < r.copies.length),oG r.gen.width r.copies i h=true):gu r=true:=by
 unfold gu;rw [h,decide_eq_true h2];rfl
set_option maxRecDepth 100000 in
set_option maxHeartbeats 2000000 in
theorem Pj (r:dS) (sg sk sc:Value) (W:World) (h:bN No W sg sk sc r) (hd:nY r=false):Calls Tryz.prog 78 #[.agg #[.int .i64 (r.gen.width:Int),sg,.int .i64 (r.kill.width:Int),sk,sc]] W (bZ (gu r) W):=by
 have H:=aa h
 have hgv:oo No W (.agg #[.int .i64 r.gen.width,sg]) r.gen:=⟨_,rfl,h.gen⟩
 have hkv:oo No W (.agg #[.int .i64 r.kill.width,sk]) r.kill:=⟨_,rfl,h.kill⟩
 have HG:=aa hgv
 have HK:=aa hkv
 have hlen:=h.copies.2.1
 obtain ⟨ag,ng,cg,rfl⟩:=h.gen.shaped
 obtain ⟨ak,nk,ck,rfl⟩:=h.kill.shaped
 obtain ⟨ac,cc,rfl⟩:=Row.slice h.copies
 clear h hgv hkv
 rw [zx hd]
 unfold nY at hd
 cases h1:fH r.gen with
 |false=>
  clear hd
  go_enter Tryz.func78,Tryz.ntmps78
  go_wp2_with fail
  refine (eH _ r.gen _ (HG.aj ((Ext.refl _ _).alloc _))).mono ?_
  exact Fy
 |true=>
  cases h2:fH r.kill with
  |false=>
   clear hd
   go_enter Tryz.func78,Tryz.ntmps78
   go_wp2_with fail
   refine (eH _ r.gen _ (HG.aj ((Ext.refl _ _).alloc _))).mono ?_
   rintro e1 w1 ⟨rfl,hx1⟩
   rw [h1]
   have hxa:Ext No W w1:=((Ext.refl _ _).alloc _).af hx1
   have cB:=cellOf (hx1.blk (ah (w:=W) rfl) ax)
   clear hx1
   go_wp2_with fail
   refine (eH _ r.kill _ (HK.aj hxa)).mono ?_
   exact Fx
  |true=>
   rw [h1,h2,Bool.true_and,Bool.true_and] at hd
   by_cases h3:r.gen.width=r.kill.width
   ·have h4:¬r.copies.length≤64:=fun h4=>by rw [decide_eq_true h3,decide_eq_true h4] at hd;cases hd
    have h3':(r.gen.width != r.kill.width)=false:=by simpa using h3
    have h4':decide ((64:Int) < (r.copies.length:Int))=true:=by simp;omega
    clear h3 h4 hd
    exact Gy
   have h3':(r.gen.width != r.kill.width)=true:=by simpa using h3
   clear h3 hd
   exact Gy
end Go.Proofs.YtmddchceacmopaaGreatDoor

namespace Go.Proofs.YtmddchceacmopaaGreatDoor
open Go Go.RowKit
set_option maxRecDepth 100000 in
set_option maxHeartbeats 4000000 in
theorem qi (r:dS) (sg sk sc:Value) (W:World) (h:bN No W sg sk sc r):Calls Tryz.prog 78 #[.agg #[.int .i64 (r.gen.width:Int),sg,.int .i64 (r.kill.width:Int),sk,sc]] W (bZ (gu r) W):=by
 cases hd:nY r with
 |false=>exact Pj r sg sk sc W h hd
 |true=>
  have HD:=aa hd
  have H:=aa h
  have hgv:oo No W (.agg #[.int .i64 r.gen.width,sg]) r.gen:=⟨_,rfl,h.gen⟩
  have hkv:oo No W (.agg #[.int .i64 r.kill.width,sk]) r.kill:=⟨_,rfl,h.kill⟩
  have HG:=aa hgv
  have HK:=aa hkv
  obtain ⟨ag,ng,cg,rfl⟩:=h.gen.shaped
  obtain ⟨ak,nk,ck,rfl⟩:=h.kill.shaped
  obtain ⟨ac,cc,rfl⟩:=Row.slice h.copies
  clear h hgv hkv
  unfold nY at hd
  simp only [Bool.and_eq_true,decide_eq_true_eq] at hd
  obtain ⟨h1,h2,h3,h4⟩:=hd
  have h3':(r.gen.width != r.kill.width)=false:=by simpa using h3
  have h4':decide ((64:Int) < (r.copies.length:Int))=false:=by simp;omega
  clear h3
  go_enter Tryz.func78,Tryz.ntmps78
  go_wp2_with fail
  refine (eH _ r.gen _ (HG.aj ((Ext.refl _ _).alloc _))).mono ?_
  rintro e1 w1 ⟨rfl,hx1⟩
  rw [h1]
  have hxa:Ext No W w1:=((Ext.refl _ _).alloc _).af hx1
  have hB:=hx1.blk (ah (w:=W) rfl) ax
  have cB:=cellOf hB
  clear hx1
  go_wp2_with fail
  refine (eH _ r.kill _ (HK.aj hxa)).mono ?_
  rintro e2 w2 ⟨rfl,hx2⟩
  rw [h2]
  have hB2:=aa (hx2.blk hB ax)
  have ji:=aa (hxa.af hx2)
  clear cB hB hxa hx2 h1 h2
  have cB:=cellOf hB2.out
  go_wp2_with fail
  clear cB h3' h4'
  go_loopw [33] (fun i wr=>∃k:Nat,k≤r.copies.length∧i= .int .i64 k∧Hid (Ext No W wr)∧Hid (wr.heap[W.heap.size]? =some (.cells #[.int .i64 r.gen.width,.slice ag ng cg,.int .i64 r.kill.width,.slice ak nk ck,.slice ac r.copies.length cc] 47 (0,0)))∧Hid (∀j (hj:j < r.copies.length),j < k→oG r.gen.width r.copies j hj=true)) (fun i _=>r.copies.length - (intOf i).toNat)
  case atStart=>exact Fz
  clear ji hB2
  obtain ⟨k,hk,rfl,hx,hB,hall⟩:=hrel
  by_cases hlt:k < r.copies.length
  ·obtain ⟨b,off,cap',hsl,hb1,_,hcell⟩:=H.copies.at hlt
   simp only [Value.slice.injEq] at hsl
   obtain ⟨rfl,_,rfl⟩:=hsl
   obtain ⟨q0,q1⟩:=hcell k hlt
   replace q0:=hx.keep q0
   replace q1:=hx.keep q1
   have p0:=hx.keep (hcell (k - 1) (by omega)).1
   have p1:=hx.keep (hcell (k - 1) (by omega)).2
   clear hcell
   have hpos:(0:Int)≤(k:Int):=by omega
   have hkb:k≤64:=by omega
   have HE:Hid (oG r.gen.width r.copies k hlt=(mh r.gen.width r.copies[k].1&&(mh r.gen.width r.copies[k].2&&(decide (k=0)||decide (iM r.copies[k - 1] r.copies[k] < 0))))):=aa rfl
   have hsz:W.heap.size < _:=lt_of_block hB.out
   rename World=>wr
   have b0:wr.cell? ⟨W.heap.size,0,none⟩=some (.int .i64 r.gen.width):=cellOf hB.out 0
   have b1':wr.cell? ⟨W.heap.size,1,none⟩=some (.slice ag ng cg):=cellOf hB.out 1
   have b2:wr.cell? ⟨W.heap.size,2,none⟩=some (.int .i64 r.kill.width):=cellOf hB.out 2
   have b3:wr.cell? ⟨W.heap.size,3,none⟩=some (.slice ak nk ck):=cellOf hB.out 3
   have b4:wr.cell? ⟨W.heap.size,4,none⟩=some (.slice (some ⟨b,off,none⟩) r.copies.length cc):=cellOf hB.out 4
   have HKK:Hid (Value.int .i64 ((k:Int)+1)= .int .i64 ((k+1:Nat):Int)):=aa (by rw [show ((k+1:Nat):Int)=(k:Int)+1 from by omega])
   generalize hx1:r.copies[k]=x at*
   generalize hy1:r.copies[k - 1]=y at*
   obtain ⟨x1,x2⟩:=x
   obtain ⟨y1,y2⟩:=y
   have Kn:=aa hx1
   have HYY:=aa hy1
   clear hx1 hy1
   simp only at q0 q1 p0 p1 HE
   go_wp2_with fail
   have l5:(wr.alloc (.cells #[.int .i64 x1,.int .i64 x2] 75)).cell? ⟨wr.heap.size,0,none⟩=some (.int .i64 x1):=cellOf (ah rfl) 0
   have l6:(wr.alloc (.cells #[.int .i64 x1,.int .i64 x2] 75)).cell? ⟨wr.heap.size,1,none⟩=some (.int .i64 x2):=cellOf (ah rfl) 1
   replace b0:=aO (o:= .cells #[.int .i64 x1,.int .i64 x2] 75) b0
   replace b1':=aO (o:= .cells #[.int .i64 x1,.int .i64 x2] 75) b1'
   replace b2:=aO (o:= .cells #[.int .i64 x1,.int .i64 x2] 75) b2
   replace b3:=aO (o:= .cells #[.int .i64 x1,.int .i64 x2] 75) b3
   replace b4:=aO (o:= .cells #[.int .i64 x1,.int .i64 x2] 75) b4
   replace p0:=aO (o:= .cells #[.int .i64 x1,.int .i64 x2] 75) p0
   replace p1:=aO (o:= .cells #[.int .i64 x1,.int .i64 x2] 75) p1
   have hx4:Ext No wr (wr.alloc (.cells #[.int .i64 x1,.int .i64 x2] 75)):=(Ext.refl _ _).alloc _
   have hB4:=aa (ay (o:= .cells #[.int .i64 x1,.int .i64 x2] 75) hB)
   have II:=aa (hx.af hx4)
   clear q0 q1 hx hB hsz
   generalize wr.heap.size=D at*
   generalize World.alloc wr _=w4 at*
   clear hx4
   have l9:Ext No w4 w4:=Ext.refl _ _
   have hw1:0 < k→IntKind.i64.wrap ((k:Int) - 1)=((k - 1:Nat):Int):=fun h=>by rw [IntWalk.i64_in _ (by omega)];omega
   have hp1:0≤((k - 1:Nat):Int):=by omega
   have hp2:((k - 1:Nat):Int) < (r.copies.length:Int):=by omega
   cases g1:mh r.gen.width x1 with
   |false=>
    refine uW (fun w'=>w'.cell? ⟨W.heap.size,0,none⟩=some (.int .i64 r.gen.width)∧w'.cell? ⟨W.heap.size,1,none⟩=some (.slice ag ng cg)∧w'.cell? ⟨W.heap.size,2,none⟩=some (.int .i64 r.kill.width)∧w'.cell? ⟨W.heap.size,3,none⟩=some (.slice ak nk ck)∧w'.cell? ⟨W.heap.size,4,none⟩=some (.slice (some ⟨b,off,none⟩) r.copies.length cc)∧w'.cell? ⟨D,0,none⟩=some (.int .i64 x1)∧w'.cell? ⟨D,1,none⟩=some (.int .i64 x2)∧w'.cell? ⟨b,off+(k - 1)*2,none⟩=some (.int .i64 y1)∧w'.cell? ⟨b,off+(k - 1)*2+1,none⟩=some (.int .i64 y2)∧Ext No w4 w') pE fun hHeld=>?_
    refine uO [0,1,2] ?_
    iterate 3 refine uT ?_ (hy:=aM)
    refine uZ ?_
    refine hHc 3 fun K hK=>?_
    (go_simp;go_at_call 110;(with_reducible refine (mP r.gen.width r.kill.width _ _ _ _ _ (rG _ _ _) (rG _ _ _) (rG _ _ _)).mono ?_);(rintro e' w1 ⟨rfl,aF⟩);go_simp)
    refine uK hK iX ?_
    clear hK K hHeld
    intro hHeld
    refine uO [4,5,6,7,8,9,10,11,12,13,14,15,16,17,18,19,20,21,22,23,24,25,26] ?_
    iterate 2 refine uT ?_ (hy:=aM)
    iterate 5 refine uS ?_
    iterate 2 refine uT ?_ (hy:=aM)
    iterate 13 refine uS ?_
    refine uT ?_ (hy:=aM)
    refine uZ ?_
    refine uD ?_
    have lZ:=hHeld.2.2.2.2.2.2.2.2.2
    go_wp2_with fail
    go_ret
    exact ⟨kM (jH k hlt (by rw [HE,g1];rfl)).symm,II.af lZ⟩
   |true=>
    cases g2:mh r.gen.width x2 with
    |false=>
     refine uW (fun w'=>w'.cell? ⟨W.heap.size,0,none⟩=some (.int .i64 r.gen.width)∧w'.cell? ⟨W.heap.size,1,none⟩=some (.slice ag ng cg)∧w'.cell? ⟨W.heap.size,2,none⟩=some (.int .i64 r.kill.width)∧w'.cell? ⟨W.heap.size,3,none⟩=some (.slice ak nk ck)∧w'.cell? ⟨W.heap.size,4,none⟩=some (.slice (some ⟨b,off,none⟩) r.copies.length cc)∧w'.cell? ⟨D,0,none⟩=some (.int .i64 x1)∧w'.cell? ⟨D,1,none⟩=some (.int .i64 x2)∧w'.cell? ⟨b,off+(k - 1)*2,none⟩=some (.int .i64 y1)∧w'.cell? ⟨b,off+(k - 1)*2+1,none⟩=some (.int .i64 y2)∧Ext No w4 w') pE fun hHeld=>?_
     refine uO [0,1,2] ?_
     iterate 3 refine uT ?_ (hy:=aM)
     refine uZ ?_
     refine hHc 3 fun K hK=>?_
     (go_simp;go_at_call 110;(with_reducible refine (mP r.gen.width r.kill.width _ _ _ _ _ (rG _ _ _) (rG _ _ _) (rG _ _ _)).mono ?_);(rintro e' w1 ⟨rfl,aF⟩);go_simp)
     refine uK hK iX ?_
     clear hK K hHeld
     intro hHeld
     refine uO [4,5,6,7,8] ?_
     iterate 5 refine uT ?_ (hy:=aM)
     refine uZ ?_
     refine hHc 9 fun K hK=>?_
     (go_simp;go_at_call 110;(with_reducible refine (mP r.gen.width r.kill.width _ _ _ _ _ (rG _ _ _) (rG _ _ _) (rG _ _ _)).mono ?_);(rintro e' w1 ⟨rfl,aF⟩);go_simp)
     refine uK hK iX ?_
     clear hK K hHeld
     intro hHeld
     refine uO [10,11,12,13,14,15,16,17,18,19,20,21,22,23,24,25,26] ?_
     iterate 3 refine uT ?_ (hy:=aM)
     iterate 13 refine uS ?_
     refine uT ?_ (hy:=aM)
     refine uZ ?_
     refine uD ?_
     have lZ:=hHeld.2.2.2.2.2.2.2.2.2
     go_wp2_with fail
     go_ret
     exact ⟨kM (jH k hlt (by rw [HE,g1,g2];rfl)).symm,II.af lZ⟩
    |true=>
     by_cases hk0:k=0
     ·subst hk0
      clear hw1 hp1 hp2
      refine uW (fun w'=>w'.cell? ⟨W.heap.size,0,none⟩=some (.int .i64 r.gen.width)∧w'.cell? ⟨W.heap.size,1,none⟩=some (.slice ag ng cg)∧w'.cell? ⟨W.heap.size,2,none⟩=some (.int .i64 r.kill.width)∧w'.cell? ⟨W.heap.size,3,none⟩=some (.slice ak nk ck)∧w'.cell? ⟨W.heap.size,4,none⟩=some (.slice (some ⟨b,off,none⟩) r.copies.length cc)∧w'.cell? ⟨D,0,none⟩=some (.int .i64 x1)∧w'.cell? ⟨D,1,none⟩=some (.int .i64 x2)∧w'.cell? ⟨b,off+(0 - 1)*2,none⟩=some (.int .i64 y1)∧w'.cell? ⟨b,off+(0 - 1)*2+1,none⟩=some (.int .i64 y2)∧Ext No w4 w') pE fun hHeld=>?_
      refine uO [0,1,2] ?_
      iterate 3 refine uT ?_ (hy:=aM)
      refine uZ ?_
      refine hHc 3 fun K hK=>?_
      (go_simp;go_at_call 110;(with_reducible refine (mP r.gen.width r.kill.width _ _ _ _ _ (rG _ _ _) (rG _ _ _) (rG _ _ _)).mono ?_);(rintro e' w1 ⟨rfl,aF⟩);go_simp)
      refine uK hK iX ?_
      clear hK K hHeld
      intro hHeld
      refine uO [4,5,6,7,8] ?_
      iterate 5 refine uT ?_ (hy:=aM)
      refine uZ ?_
      refine hHc 9 fun K hK=>?_
      (go_simp;go_at_call 110;(with_reducible refine (mP r.gen.width r.kill.width _ _ _ _ _ (rG _ _ _) (rG _ _ _) (rG _ _ _)).mono ?_);(rintro e' w1 ⟨rfl,aF⟩);go_simp)
      refine uK hK iX ?_
      clear hK K hHeld
      intro hHeld
      refine uO [10,11,12,13,14,15,16,17,18,19,20,21,22,23,24,25,26] ?_
      iterate 6 refine uT ?_ (hy:=aM)
      iterate 9 refine uS ?_
      iterate 2 refine uT ?_ (hy:=aM)
      refine uZ ?_
      refine uD ?_
      have lZ:=hHeld.2.2.2.2.2.2.2.2.2
      go_wp2_with fail
      go_roundw
      case rel=>exact ⟨0+1,by omega,rfl,II.af lZ,lZ.blk hB4 ax,aa (fun j hj hjk=>by
       obtain rfl:j=0:=by omega
       rw [HE,g1,g2];rfl)⟩
      case measure=>simp [intOf];omega
     have hkp:0 < k:=by omega
     have hw2:=hw1 hkp
     have ZK:=aa hk0
     clear hw1 hk0
     have hkd:decide ((0:Int) < (k:Int))=true:=by simpa using hkp
     by_cases hcz:iM (y1,y2) (x1,x2) < 0
     ·have hcd:decide (0≤iM (y1,y2) (x1,x2))=false:=by simpa using hcz
      have WV:=aa (decide_eq_true hcz)
      clear hcz
      refine uW (fun w'=>w'.cell? ⟨W.heap.size,0,none⟩=some (.int .i64 r.gen.width)∧w'.cell? ⟨W.heap.size,1,none⟩=some (.slice ag ng cg)∧w'.cell? ⟨W.heap.size,2,none⟩=some (.int .i64 r.kill.width)∧w'.cell? ⟨W.heap.size,3,none⟩=some (.slice ak nk ck)∧w'.cell? ⟨W.heap.size,4,none⟩=some (.slice (some ⟨b,off,none⟩) r.copies.length cc)∧w'.cell? ⟨D,0,none⟩=some (.int .i64 x1)∧w'.cell? ⟨D,1,none⟩=some (.int .i64 x2)∧w'.cell? ⟨b,off+(k - 1)*2,none⟩=some (.int .i64 y1)∧w'.cell? ⟨b,off+(k - 1)*2+1,none⟩=some (.int .i64 y2)∧Ext No w4 w') pE fun hHeld=>?_
      refine uO [0,1,2] ?_
      iterate 3 refine uT ?_ (hy:=aM)
      refine uZ ?_
      refine hHc 3 fun K hK=>?_
      (go_simp;go_at_call 110;(with_reducible refine (mP r.gen.width r.kill.width _ _ _ _ _ (rG _ _ _) (rG _ _ _) (rG _ _ _)).mono ?_);(rintro e' w1 ⟨rfl,aF⟩);go_simp)
      refine uK hK iX ?_
      clear hK K hHeld
      intro hHeld
      refine uO [4,5,6,7,8] ?_
      iterate 5 refine uT ?_ (hy:=aM)
      refine uZ ?_
      refine hHc 9 fun K hK=>?_
      (go_simp;go_at_call 110;(with_reducible refine (mP r.gen.width r.kill.width _ _ _ _ _ (rG _ _ _) (rG _ _ _) (rG _ _ _)).mono ?_);(rintro e' w1 ⟨rfl,aF⟩);go_simp)
      refine uK hK iX ?_
      clear hK K hHeld
      intro hHeld
      refine uO [10,11,12,13,14,15,16,17,18,19,20,21,22] ?_
      iterate 13 refine uT ?_ (hy:=aM)
      refine uZ ?_
      refine hHc 23 fun K hK=>?_
      (go_simp;go_at_call 111;(with_reducible refine (zG (y1,y2) (x1,x2) _).mono ?_);(rintro e' w1 ⟨rfl,aF⟩);go_simp)
      refine uK hK iX ?_
      clear hK K hHeld
      intro hHeld
      refine uO [24,25,26] ?_
      iterate 3 refine uT ?_ (hy:=aM)
      refine uZ ?_
      refine uD ?_
      have lZ:=hHeld.2.2.2.2.2.2.2.2.2
      go_wp2_with fail
      go_roundw
      case rel=>exact ⟨k+1,by omega,HKK,II.af lZ,lZ.blk hB4 ax,aa (fun j hj hjk=>by
       by_cases e:j=k
       ·subst e
        rw [HE,g1,g2,WV,Bool.or_true];rfl
       exact hall j hj (by omega))⟩
      case measure=>simp [intOf];omega
     have hcd:decide (0≤iM (y1,y2) (x1,x2))=true:=by simpa using hcz
     have WV:=aa (decide_eq_false hcz)
     clear hcz
     refine uW (fun w'=>w'.cell? ⟨W.heap.size,0,none⟩=some (.int .i64 r.gen.width)∧w'.cell? ⟨W.heap.size,1,none⟩=some (.slice ag ng cg)∧w'.cell? ⟨W.heap.size,2,none⟩=some (.int .i64 r.kill.width)∧w'.cell? ⟨W.heap.size,3,none⟩=some (.slice ak nk ck)∧w'.cell? ⟨W.heap.size,4,none⟩=some (.slice (some ⟨b,off,none⟩) r.copies.length cc)∧w'.cell? ⟨D,0,none⟩=some (.int .i64 x1)∧w'.cell? ⟨D,1,none⟩=some (.int .i64 x2)∧w'.cell? ⟨b,off+(k - 1)*2,none⟩=some (.int .i64 y1)∧w'.cell? ⟨b,off+(k - 1)*2+1,none⟩=some (.int .i64 y2)∧Ext No w4 w') pE fun hHeld=>?_
     refine uO [0,1,2] ?_
     iterate 3 refine uT ?_ (hy:=aM)
     refine uZ ?_
     refine hHc 3 fun K hK=>?_
     (go_simp;go_at_call 110;(with_reducible refine (mP r.gen.width r.kill.width _ _ _ _ _ (rG _ _ _) (rG _ _ _) (rG _ _ _)).mono ?_);(rintro e' w1 ⟨rfl,aF⟩);go_simp)
     refine uK hK iX ?_
     clear hK K hHeld
     intro hHeld
     refine uO [4,5,6,7,8] ?_
     iterate 5 refine uT ?_ (hy:=aM)
     refine uZ ?_
     refine hHc 9 fun K hK=>?_
     (go_simp;go_at_call 110;(with_reducible refine (mP r.gen.width r.kill.width _ _ _ _ _ (rG _ _ _) (rG _ _ _) (rG _ _ _)).mono ?_);(rintro e' w1 ⟨rfl,aF⟩);go_simp)
     refine uK hK iX ?_
     clear hK K hHeld
     intro hHeld
     refine uO [10,11,12,13,14,15,16,17,18,19,20,21,22] ?_
     iterate 13 refine uT ?_ (hy:=aM)
     refine uZ ?_
     refine hHc 23 fun K hK=>?_
     (go_simp;go_at_call 111;(with_reducible refine (zG (y1,y2) (x1,x2) _).mono ?_);(rintro e' w1 ⟨rfl,aF⟩);go_simp)
     refine uK hK iX ?_
     clear hK K hHeld
     intro hHeld
     refine uO [24,25,26] ?_
     iterate 3 refine uT ?_ (hy:=aM)
     refine uZ ?_
     refine uD ?_
     have lZ:=hHeld.2.2.2.2.2.2.2.2.2
     go_wp2_with fail
     go_ret
     exact ⟨kM (jH k hlt (by rw [HE,g1,g2,WV,decide_eq_false ZK.out];rfl)).symm,II.af lZ⟩
  go_wp2_with fail
  go_ret
  exact ⟨kM (vv HD (fun j hj=>hall j hj (by omega))).symm,hx⟩

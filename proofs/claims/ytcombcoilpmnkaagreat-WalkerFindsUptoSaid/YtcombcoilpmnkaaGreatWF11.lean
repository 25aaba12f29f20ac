/-
  Texts of this claim, joined (by a program of the claim's author): PathPlain, PathBack, WPlain, WInv, WNode, WRange, WKids.
-/
import Derived.Test.YtcombcoilpmnkaaGreatWF10
import Derived.Lib.ItoaNum
import Derived.Test.YtcombcoilpmnkaaGreatWF4
import Derived.Test.YtcombcoilpmnkaaGreatWF5
import Derived.Test.YtcombcoilpmnkaaGreatWF2
import Derived.Test.YtcombcoilpmnkaaGreatWF1
import Derived.Test.YtcombcoilpmnkaaGreatWF9
import Derived.Test.YtcombcoilpmnkaaGreatWF3
import Derived.Deep.QuietTactic
import Derived.BigQuiet
namespace Go.Proofs.YtcombcoilpmnkaaGreat
set_option maxRecDepth 100000
set_option maxHeartbeats 16000000
section
structure PredD where
 kind:Int
 num:Int
 name:List UInt8
 value:List UInt8
deriving DecidableEq
structure StepD where
 axis:Int
 test:Int
 name:List UInt8
 preds:List PredD
deriving DecidableEq
def partF:Nat→List UInt8→Nat
 | 0,_=>0
 | f+1,l=>if (nextL l).2=0∨partB (nextL l).1=false then 0 else (nextL l).2+partF f (l.drop (nextL l).2)
def partN (l:List UInt8):Nat:=partF (l.length+1) l
def qname (l:List UInt8):Told (List UInt8):=if nameL (l.take (partN l))=false then .bad 0 70 else .ok (l.take (partN l)) (partN l)
def qvalue (l:List UInt8):Told (List UInt8) :=
 if pre [34] l=false then .bad 0 70
 else
  let v:=(l.drop 1).takeWhile (· != 34)
  if v.length=(l.drop 1).length then .bad l.length 70
  else
   let u:=undoL true v
   if u.2.2≠0 then .bad (1+u.2.1) u.2.2 else .ok u.1 (1+v.length+1)
def digB (b:UInt8):Bool:=decide (48≤b.toNat∧b.toNat≤57)
def numQ (n:Int):List UInt8→Int
 | []=>n
 | d :: r=>numQ (min (10 * n+((d.toNat:Int)-48)) 10000) r
def qnumber (l:List UInt8):Told Int :=
 let d:=l.takeWhile digB
 if d=[]∨pre [48] l=true∨9999<numQ 0 d then .bad 0 70 else .ok (numQ 0 d) d.length
def qattr (l:List UInt8):Told PredD:=match qname l with
 | .bad k e=>.bad k e
 | .ok s n=>if pre [61] (l.drop n)=false then .ok ⟨3,0,s,[]⟩ n
  else match qvalue (l.drop (n+1)) with
   | .bad k e=>.bad (n+1+k) e
   | .ok v m=>.ok ⟨4,0,s,v⟩ (n+1+m)
def tLast:List UInt8:=[108,97,115,116,40,41]
def tText:List UInt8:=[116,101,120,116,40,41]
def tNode:List UInt8:=[110,111,100,101,40,41]
def qpred (l:List UInt8):Told PredD :=
 if pre [64] l=true then (qattr (l.drop 1)).past 1
 else if pre tLast l=true then .ok ⟨2,0,[],[]⟩ 6
 else if pre tText l=true then
  (if pre [61] (l.drop 6)=false then .bad 6 70
   else match qvalue (l.drop 7) with
   | .bad k e=>.bad (7+k) e
   | .ok v m=>.ok ⟨5,0,[],v⟩ (7+m))
 else match qnumber l with
  | .bad k e=>.bad k e
  | .ok n m=>.ok ⟨1,n,[],[]⟩ m
def qpredsF:Nat→List UInt8→List PredD→Told (List PredD)
 | 0,_,_=>.bad 0 70
 | f+1,l,ps =>
  if pre [91] l=false then .ok ps 0
  else if 5≤ps.length then .bad 0 70
  else match qpred (l.drop 1) with
   | .bad k e=>.bad (1+k) e
   | .ok p n=>if pre [93] (l.drop (1+n))=false then .bad (1+n) 70 else (qpredsF f (l.drop (n+2)) (ps++[p])).past (n+2)
def qpreds (l:List UInt8) (ps:List PredD):Told (List PredD):=qpredsF (l.length+1) l ps
def qtest (l:List UInt8):Told (Int × List UInt8) :=
 if pre [42] l=true then .ok (2,[]) 1
 else if pre tText l=true then .ok (3,[]) 6
 else if pre tNode l=true then .ok (4,[]) 6
 else match qname l with
  | .bad k e=>.bad k e
  | .ok s n=>.ok (1,s) n
def axisT:Nat→List UInt8
 | 1=>[99,104,105,108,100,58,58]
 | 2=>[100,101,115,99,101,110,100,97,110,116,58,58]
 | 3=>[100,101,115,99,101,110,100,97,110,116,45,111,114,45,115,101,108,102,58,58]
 | 4=>[112,97,114,101,110,116,58,58]
 | 5=>[97,110,99,101,115,116,111,114,58,58]
 | 6=>[102,111,108,108,111,119,105,110,103,45,115,105,98,108,105,110,103,58,58]
 | 7=>[112,114,101,99,101,100,105,110,103,45,115,105,98,108,105,110,103,58,58]
 | 8=>[115,101,108,102,58,58]
 | _=>[]
def axisF:Nat→Nat→List UInt8→Nat
 | 0,_,_=>0
 | f+1,k,l=>if pre (axisT k) l=true then k else axisF f (k+1) l
def axisN (l:List UInt8):Nat:=axisF 8 1 l
def qstep (l:List UInt8):Told StepD :=
 if pre [46,46] l=true then .ok ⟨4,4,[],[]⟩ 2
 else if pre [46] l=true then .ok ⟨8,4,[],[]⟩ 1
 else
  let x:=axisN l
  let k:=(axisT x).length
  match qtest (l.drop k) with
  | .bad j e=>.bad (k+j) e
  | .ok t n=>match qpreds (l.drop (k+n)) [] with
   | .bad j e=>.bad (k+n+j) e
   | .ok ps m=>.ok ⟨if x=0 then 1 else x,t.1,t.2,ps⟩ (k+n+m)
def qone (l:List UInt8) (ls:List StepD):Told (List StepD) :=
 if pre [47] l=false then .bad 0 70
 else
  let two:=pre [47] (l.drop 1)
  if two=true∧20≤ls.length then .bad 0 70
  else
   let ls':=if two=true then ls++[⟨3,4,[],[]⟩] else ls
   let k:=if two=true then 2 else 1
   if 20≤ls'.length then .bad 0 70
   else match qstep (l.drop k) with
    | .bad j e=>.bad (k+j) e
    | .ok s n=>.ok (ls'++[s]) (k+n)
def qallF:Nat→List UInt8→List StepD→Told (List StepD)
 | 0,_,_=>.bad 0 70
 | f+1,l,ls=>match qone l ls with
  | .bad k e=>.bad k e
  | .ok ls' n=>if l.drop n=[] then .ok ls' n else (qallF f (l.drop n) ls').past n
def qall (l:List UInt8) (ls:List StepD):Told (List StepD):=qallF (l.length+1) l ls
def queryL (l:List UInt8):List StepD × Nat × Int:=if 200<l.length then ([],0,71) else match qall l [] with
 | .ok ls _=>(ls,0,0)
 | .bad k e=>([],k,e)
/-! ## How far what is told may reach -/
theorem zGc:∀ (f:Nat) (l:List UInt8),partF f l≤l.length
 | 0,_=>by simp [partF]
 | f+1,l=>by
  rw [partF]
  split
  ·omega
  ·have h1:=(zA2 l).1
   have h2:=zGc f (l.drop (nextL l).2)
   rw [List.length_drop] at h2;omega
theorem zCB (l:List UInt8):partN l≤l.length:=zGc _ l
theorem zEz:∀ (f:Nat) (l:List UInt8) (g:Nat),l.length<f→l.length<g→partF f l=partF g l
 | 0,_,_,h,_=>by omega
 | f+1,l,0,_,h=>by omega
 | f+1,l,g+1,hf,hg=>by
  rw [partF,partF];by_cases h:(nextL l).2=0∨partB (nextL l).1=false
  ·rw [if_pos h,if_pos h]
  ·rw [if_neg h,if_neg h]
   have h1:=(zA2 l).1
   rw [zEz f (l.drop (nextL l).2) g (by rw [List.length_drop];omega) (by rw [List.length_drop];omega)]
theorem zCM {l:List UInt8} (h:(nextL l).2=0∨partB (nextL l).1=false):partN l=0:=by unfold partN;rw [partF,if_pos h]
theorem zE0 {l:List UInt8} (h:¬ ((nextL l).2=0∨partB (nextL l).1=false)):partN l=(nextL l).2+partN (l.drop (nextL l).2):=by
 have h1:=(zA2 l).1
 unfold partN;rw [partF,if_neg h,zEz l.length (l.drop (nextL l).2) ((l.drop (nextL l).2).length+1) (by rw [List.length_drop];omega) (by omega)]
theorem zE1 {p l:List UInt8} {k:Nat} (hk:k≤l.length) (h:pre p (l.drop k)=true):k+p.length≤l.length:=by
 have:=zAU h
 rw [List.length_drop] at this;omega
theorem zCC (l:List UInt8):(qname l).within 1 l.length:=by
 have h:=zCB l
 unfold qname
 split
 ·exact ⟨by omega,by decide⟩
 ·rename_i hn
  refine ⟨?_,h⟩
  rcases Nat.eq_zero_or_pos (partN l) with h0 | h0
  ·rw [h0,List.take_zero] at hn
   exact absurd rfl hn
  ·exact h0
theorem zC3 (l:List UInt8):(qvalue l).within 2 l.length:=by
 unfold qvalue
 split
 ·exact ⟨by omega,by decide⟩
 ·rename_i hp
  have hp1:=zAU (p:=[34]) (l:=l) (by simpa using hp)
  simp at hp1
  have h1:=zA5 (· != 34) (l.drop 1)
  have h2:=zFr true ((l.drop 1).takeWhile (· != 34))
  rw [List.length_drop] at h1;simp only
  split
  ·exact ⟨by omega,by decide⟩
  ·rename_i hne
   rw [List.length_drop] at hne
   split
   ·rename_i h;exact ⟨by omega,h⟩
   ·exact ⟨by omega,by omega⟩
theorem zEb (l:List UInt8):(qnumber l).within 1 l.length:=by
 have h1:=zA5 digB l
 unfold qnumber;simp only
 split
 ·exact ⟨by omega,by decide⟩
 ·rename_i h
  refine ⟨?_,h1⟩
  have:l.takeWhile digB≠[]:=fun e=>h (.inl e)
  exact List.length_pos_iff.2 this
theorem zGi (l:List UInt8):(qattr l).within 1 l.length:=by
 have h1:=zCC l
 unfold qattr;cases hn:qname l with
 | bad k e=>rw [hn] at h1;exact h1
 | ok s n =>
  rw [hn] at h1;obtain ⟨a,b⟩:=h1
  simp only
  split
  ·exact ⟨a,b⟩
  ·rename_i hp
   have hp1:=zE1 b (p:=[61]) (by simpa using hp)
   simp at hp1
   have h2:=zC3 (l.drop (n+1))
   rw [List.length_drop] at h2;cases hv:qvalue (l.drop (n+1)) with
   | bad k e=>rw [hv] at h2;obtain ⟨c,d⟩:=h2;exact ⟨by omega,d⟩
   | ok v m=>rw [hv] at h2;obtain ⟨c,d⟩:=h2;exact ⟨by omega,by omega⟩
theorem zCD (l:List UInt8):(qpred l).within 1 l.length:=by
 unfold qpred
 split
 ·rename_i hp
  have hp1:=zAU hp
  simp at hp1
  have h:=zGi (l.drop 1)
  rw [List.length_drop] at h;cases hq:qattr (l.drop 1) with
  | bad k e=>rw [hq] at h;obtain ⟨c,d⟩:=h;exact ⟨by omega,d⟩
  | ok v m=>rw [hq] at h;obtain ⟨c,d⟩:=h;exact ⟨by omega,by omega⟩
 split
 ·rename_i hp
  have hp1:=zAU hp
  simp [tLast] at hp1
  exact ⟨by omega,by omega⟩
 split
 ·rename_i hp
  have hp1:=zAU hp
  simp [tText] at hp1
  split
  ·exact ⟨by omega,by decide⟩
  ·rename_i hp'
   have hp2:=zE1 hp1 (p:=[61]) (by simpa using hp')
   simp at hp2
   have h:=zC3 (l.drop 7)
   rw [List.length_drop] at h;cases hq:qvalue (l.drop 7) with
   | bad k e=>rw [hq] at h;obtain ⟨c,d⟩:=h;exact ⟨by omega,d⟩
   | ok v m=>rw [hq] at h;obtain ⟨c,d⟩:=h;exact ⟨by omega,by omega⟩
 ·have h:=zEb l
  cases hq:qnumber l with
  | bad k e=>rw [hq] at h;exact h
  | ok n m=>rw [hq] at h;exact h
theorem zCS:∀ (f:Nat) (l:List UInt8) (ps:List PredD),(qpredsF f l ps).within 0 l.length
 | 0,l,_=>⟨Nat.zero_le _,by decide⟩
 | f+1,l,ps=>by
  rw [qpredsF]
  split
  ·exact ⟨Nat.le_refl _,Nat.zero_le _⟩
  rename_i hp
  have hp1:=zAU (p:=[91]) (l:=l) (by simpa using hp)
  simp at hp1
  split
  ·exact ⟨Nat.zero_le _,by decide⟩
  have h1:=zCD (l.drop 1)
  rw [List.length_drop] at h1;cases hq:qpred (l.drop 1) with
  | bad k e=>rw [hq] at h1;obtain ⟨c,d⟩:=h1;exact ⟨by omega,d⟩
  | ok p n =>
   rw [hq] at h1;obtain ⟨c,d⟩:=h1;simp only
   split
   ·exact ⟨by omega,by decide⟩
   rename_i hp'
   have hp2:=zE1 (k:=1+n) (p:=[93]) (l:=l) (by omega) (by simpa using hp')
   simp at hp2
   have h2:=zCS f (l.drop (n+2)) (ps++[p])
   rw [List.length_drop] at h2;cases hr:qpredsF f (l.drop (n+2)) (ps++[p]) with
   | bad k e=>rw [hr] at h2;obtain ⟨a,b⟩:=h2;exact ⟨by omega,b⟩
   | ok v m=>rw [hr] at h2;obtain ⟨a,b⟩:=h2;exact ⟨by omega,by omega⟩
theorem zDU:∀ (f:Nat) (l:List UInt8) (ps:List PredD) (g:Nat),l.length<f→l.length<g→qpredsF f l ps=qpredsF g l ps
 | 0,_,_,_,h,_=>by omega
 | f+1,l,_,0,_,h=>by omega
 | f+1,l,ps,g+1,hf,hg=>by
  rw [qpredsF,qpredsF]
  split
  ·rfl
  rename_i hp
  have hp1:=zAU (p:=[91]) (l:=l) (by simpa using hp)
  simp at hp1
  split
  ·rfl
  cases hq:qpred (l.drop 1) with
  | bad k e=>rfl
  | ok p n =>
   simp only
   rw [zDU f (l.drop (n+2)) (ps++[p]) g (by rw [List.length_drop];omega) (by rw [List.length_drop];omega)]
theorem zEK {l:List UInt8} {ps:List PredD} (h:pre [91] l=false):qpreds l ps=.ok ps 0:=by unfold qpreds;rw [qpredsF,if_pos h]
theorem zEJ {l:List UInt8} {ps:List PredD} (h:pre [91] l=true) (h5:5≤ps.length):qpreds l ps=.bad 0 70:=by unfold qpreds;rw [qpredsF,if_neg (by rw [h];decide),if_pos h5]
theorem zE6 {l:List UInt8} {ps:List PredD} (h:pre [91] l=true) (h5:¬ 5≤ps.length) {k:Nat} {e:Int} (hq:qpred (l.drop 1)=.bad k e):qpreds l ps=.bad (1+k) e:=by
 unfold qpreds;rw [qpredsF,if_neg (by rw [h];decide),if_neg h5,hq]
theorem zEL {l:List UInt8} {ps:List PredD} (h:pre [91] l=true) (h5:¬ 5≤ps.length) {p:PredD} {n:Nat} (hq:qpred (l.drop 1)=.ok p n) (hc:pre [93] (l.drop (1+n))=false):qpreds l ps=.bad (1+n) 70:=by
 unfold qpreds;rw [qpredsF,if_neg (by rw [h];decide),if_neg h5,hq];simp only;rw [if_pos hc]
theorem zEM {l:List UInt8} {ps:List PredD} (h:pre [91] l=true) (h5:¬ 5≤ps.length) {p:PredD} {n:Nat} (hq:qpred (l.drop 1)=.ok p n) (hc:pre [93] (l.drop (1+n))=true) :
  qpreds l ps=(qpreds (l.drop (n+2)) (ps++[p])).past (n+2):=by
 have hp1:=zAU (p:=[91]) (l:=l) h
 simp at hp1
 unfold qpreds;rw [qpredsF,if_neg (by rw [h];decide),if_neg h5,hq]
 simp only
 rw [if_neg (by rw [hc];decide),zDU l.length (l.drop (n+2)) _ ((l.drop (n+2)).length+1) (by rw [List.length_drop];omega) (by omega)]
theorem zDV (l:List UInt8):(qtest l).within 1 l.length:=by
 unfold qtest
 split
 ·rename_i hp;have:=zAU hp;simp at this;exact ⟨by omega,by omega⟩
 split
 ·rename_i hp;have:=zAU hp;simp [tText] at this;exact ⟨by omega,by omega⟩
 split
 ·rename_i hp;have:=zAU hp;simp [tNode] at this;exact ⟨by omega,by omega⟩
 have h:=zCC l
 cases hq:qname l with
 | bad k e=>rw [hq] at h;exact h
 | ok n m=>rw [hq] at h;exact h
theorem zDq:∀ (f k:Nat) (l:List UInt8),axisF f k l=0∨pre (axisT (axisF f k l)) l=true∧k≤axisF f k l∧axisF f k l<k+f
 | 0,_,_=>.inl rfl
 | f+1,k,l=>by
  rw [axisF]
  split
  ·rename_i h;exact .inr ⟨h,Nat.le_refl _,by omega⟩
  ·rcases zDq f (k+1) l with h | ⟨h1,h2,h3⟩
   ·exact .inl h
   ·exact .inr ⟨h1,by omega,by omega⟩
theorem zJF (l:List UInt8):(axisT (axisN l)).length≤l.length:=by
 rcases zDq 8 1 l with h | ⟨h,_⟩
 ·show (axisT (axisF 8 1 l)).length≤_
  rw [h];simp [axisT]
 ·exact zAU h
theorem zBT (l:List UInt8):(qstep l).within 1 l.length:=by
 unfold qstep
 split
 ·rename_i hp;have:=zAU hp;simp at this;exact ⟨by omega,by omega⟩
 split
 ·rename_i hp;have:=zAU hp;simp at this;exact ⟨by omega,by omega⟩
 have h0:=zJF l
 simp only
 have h1:=zDV (l.drop (axisT (axisN l)).length)
 rw [List.length_drop] at h1;cases hq:qtest (l.drop (axisT (axisN l)).length) with
 | bad k e=>rw [hq] at h1;obtain ⟨a,b⟩:=h1;exact ⟨by omega,b⟩
 | ok t n =>
  rw [hq] at h1;obtain ⟨a,b⟩:=h1;simp only
  have h2:=zCS ((l.drop ((axisT (axisN l)).length+n)).length+1) (l.drop ((axisT (axisN l)).length+n)) []
  rw [List.length_drop] at h2;unfold qpreds;rw [List.length_drop];cases hr:qpredsF (l.length-((axisT (axisN l)).length+n)+1) (l.drop ((axisT (axisN l)).length+n)) [] with
  | bad k e=>rw [hr] at h2;obtain ⟨c,d⟩:=h2;exact ⟨by omega,d⟩
  | ok v m=>rw [hr] at h2;obtain ⟨c,d⟩:=h2;exact ⟨by omega,by omega⟩
theorem zCd (l:List UInt8) (ls:List StepD):(qone l ls).within 2 l.length:=by
 unfold qone
 split
 ·exact ⟨by omega,by decide⟩
 rename_i hp
 have hp1:=zAU (p:=[47]) (l:=l) (by simpa using hp)
 simp at hp1
 have key:∀ (k:Nat) (ls':List StepD),1≤k→k≤l.length→(if 20≤ls'.length then Told.bad 0 70 else match qstep (l.drop k) with
   | .bad j e=>.bad (k+j) e
   | .ok s n=>.ok (ls'++[s]) (k+n):Told (List StepD)).within 2 l.length:=by
  intro k ls' hk1 hk2
  split
  ·exact ⟨by omega,by decide⟩
  have h:=zBT (l.drop k)
  rw [List.length_drop] at h;cases hq:qstep (l.drop k) with
  | bad j e=>rw [hq] at h;obtain ⟨a,b⟩:=h;exact ⟨by omega,b⟩
  | ok s n=>rw [hq] at h;obtain ⟨a,b⟩:=h;exact ⟨by omega,by omega⟩
 by_cases h2:pre [47] (l.drop 1)=true
 ·have h3:=zE1 hp1 h2
  simp at h3
  simp only [h2,true_and,if_true]
  split
  ·exact ⟨by omega,by decide⟩
  exact key 2 _ (by omega) (by omega)
 ·have h3:pre [47] (l.drop 1)=false:=by simpa using h2
  simp only [h3,Bool.false_eq_true,false_and,if_false];exact key 1 _ (by omega) (by omega)
theorem zE4:∀ (f:Nat) (l:List UInt8) (ls:List StepD) (g:Nat),l.length<f→l.length<g→qallF f l ls=qallF g l ls
 | 0,_,_,_,h,_=>by omega
 | f+1,l,_,0,_,h=>by omega
 | f+1,l,ls,g+1,hf,hg=>by
  rw [qallF,qallF];have h:=zCd l ls
  cases hq:qone l ls with
  | bad k e=>rfl
  | ok ls' n =>
   rw [hq] at h;obtain ⟨a,b⟩:=h;simp only
   rw [zE4 f (l.drop n) ls' g (by rw [List.length_drop];omega) (by rw [List.length_drop];omega)]
theorem zBF {l:List UInt8} {ls:List StepD} {k:Nat} {e:Int} (h:qone l ls=.bad k e):qall l ls=.bad k e:=by unfold qall;rw [qallF,h]
theorem zDl {l:List UInt8} {ls ls':List StepD} {n:Nat} (h:qone l ls=.ok ls' n) (hd:l.drop n=[]):qall l ls=.ok ls' n:=by unfold qall;rw [qallF,h];simp only;rw [if_pos hd]
theorem zC1 {l:List UInt8} {ls ls':List StepD} {n:Nat} (h:qone l ls=.ok ls' n) (hd:l.drop n≠[]):qall l ls=(qall (l.drop n) ls').past n:=by
 have hw:=zCd l ls
 rw [h] at hw;obtain ⟨a,b⟩:=hw;unfold qall;rw [qallF,h];simp only
 rw [if_neg hd,zE4 l.length (l.drop n) _ ((l.drop n).length+1) (by rw [List.length_drop];omega) (by omega)]
theorem zBS:∀ (f:Nat) (l:List UInt8) (ls:List StepD),(qallF f l ls).within 2 l.length
 | 0,l,_=>⟨Nat.zero_le _,by decide⟩
 | f+1,l,ls=>by
  rw [qallF];have h:=zCd l ls
  cases hq:qone l ls with
  | bad k e=>rw [hq] at h;exact h
  | ok ls' n =>
   rw [hq] at h;obtain ⟨a,b⟩:=h;simp only
   split
   ·exact ⟨a,b⟩
   have h2:=zBS f (l.drop n) ls'
   rw [List.length_drop] at h2;cases hr:qallF f (l.drop n) ls' with
   | bad k e=>rw [hr] at h2;obtain ⟨c,d⟩:=h2;exact ⟨by omega,d⟩
   | ok v m=>rw [hr] at h2;obtain ⟨c,d⟩:=h2;exact ⟨by omega,by omega⟩
end
section
def predB (p:PredD):Bool :=
 if p.kind=1 then decide (1≤p.num∧p.num≤9999) && decide (p.name=[]∧p.value=[])
 else if p.kind=2 then decide (p.num=0∧p.name=[]∧p.value=[])
 else if p.kind=3 then nameL p.name && decide (p.num=0∧p.value=[])
 else if p.kind=4 then nameL p.name && (decide (0≤countL p.value) && decide (p.num=0))
 else if p.kind=5 then decide (0≤countL p.value) && decide (p.num=0∧p.name=[])
 else false
def stepB (s:StepD):Bool :=
 decide (1≤s.axis∧s.axis≤8) && decide (1≤s.test∧s.test≤4) && (if s.test=1 then nameL s.name else decide (s.name=[])) && decide (s.preds.length≤5) && s.preds.all predB
def rightL (l:List StepD):Bool:=l.all stepB && decide (1≤l.length∧l.length≤20)
def testT:Int→List UInt8
 | 2=>[42]
 | 3=>tText
 | 4=>tNode
 | _=>[]
def predT (p:PredD):List UInt8 :=
 if p.kind=1 then [91]++Lib.decDigits p.num.toNat++[93]
 else if p.kind=2 then [91]++tLast++[93]
 else if p.kind=3 then [91,64]++p.name++[93]
 else if p.kind=4 then [91,64]++p.name++[61,34]++escV p.value++[34,93]
 else [91]++tText++[61,34]++escV p.value++[34,93]
def stepT (s:StepD):List UInt8:=[47]++axisT s.axis.toNat++testT s.test++s.name++s.preds.flatMap predT
def queryT (l:List StepD):List UInt8:=l.flatMap stepT
def stopQ (r:List UInt8):Prop:=∀ x t,r=x :: t→x.toNat<128∧partB (x.toNat:Int)=false∧32≤x.toNat
theorem zIm {l:List UInt8} (h:200<l.length):queryL l=([],0,71):=by unfold queryL;rw [if_pos h]
end
section
namespace Fo
def beneath:Fo→Int→Fo
 | nil,_=>nil
 | cons id _ ks r,x=>if x=id then ks else if x∈ks.ids then beneath ks x else beneath r x
def path:Fo→Int→List Int
 | nil,_=>[]
 | cons id _ ks r,x=>if x=id then [] else if x∈ks.ids then path ks x++[id] else path r x
theorem path_step:∀ (F:Fo) (q x:Int),F.ids.Nodup→x∈F.ids → ∃ e,F.ent q x=some e∧((F.path x=[]∧e.par=q∧x∈F.roots)∨(F.path x=e.par :: F.path e.par∧e.par∈F.ids))
 | nil,_,_,_,h=>by simp [ids] at h
 | cons id d ks r,q,x,hn,h=>by
  simp only [ids,List.nodup_cons,List.nodup_append,List.mem_append,not_or] at hn;obtain ⟨⟨hk,hr⟩,nk,nr,hd⟩:=hn
  by_cases hx:x=id
  ·subst hx
   exact ⟨_,by rw [ent,if_pos rfl],.inl ⟨by rw [path,if_pos rfl],rfl,by simp [roots]⟩⟩
  by_cases hxk:x∈ks.ids
  ·obtain ⟨e,he,hp⟩:=path_step ks id x nk hxk
   refine ⟨e,by rw [ent,if_neg hx,he],.inr ?_⟩
   rw [path,if_neg hx,if_pos hxk];rcases hp with ⟨h1,h2,_⟩ | ⟨h1,h2⟩
   ·rw [h1,h2,path,if_pos rfl]
    exact ⟨rfl,by simp [ids]⟩
   ·rw [h1,path,if_neg (fun e'=>hk (by rw [← e'];exact h2)),if_pos h2]
    exact ⟨rfl,by simp [ids,h2]⟩
  ·have hxr:x∈r.ids:=by simp [ids,hx,hxk] at h;exact h
   obtain ⟨e,he,hp⟩:=path_step r q x nr hxr
   refine ⟨e,by rw [ent,if_neg hx,ent_not ks id x hxk];exact he,?_⟩
   rw [path,if_neg hx,if_neg hxk];rcases hp with ⟨h1,h2,h3⟩ | ⟨h1,h2⟩
   ·exact .inl ⟨h1,h2,by simp [roots,h3]⟩
   ·refine .inr ⟨?_,by simp [ids,h2]⟩
    rw [path,if_neg (fun e'=>hr (by rw [← e'];exact h2)),if_neg (fun h'=>hd _ h' _ h2 rfl)]
    exact h1
theorem below_at {g:Int→Option Ent}:∀ (F:Fo) (q x:Int),F.ids.Nodup→x∈F.ids→Agr g q F → ∃ (q':Int) (F':Fo) (j:Nat) (d:NodeD),Agr g q' F'∧F'.trees[j]? = some (x,d,F.beneath x)∧g x=some ⟨q',d,(F.beneath x).roots⟩∧F'.cnt≤F.cnt∧Agr g x (F.beneath x) ∧ ∀ y∈F'.ids,y∈F.ids
 | nil,_,_,_,h,_=>by simp [ids] at h
 | cons id d ks r,q,x,hn,h,ha=>by
  simp only [ids,List.nodup_cons,List.nodup_append,List.mem_append,not_or] at hn;obtain ⟨⟨hk,hr⟩,nk,nr,hd⟩:=hn
  by_cases hx:x=id
  ·subst hx
   rw [beneath,if_pos rfl];exact ⟨q,_,0,d,ha,rfl,ha.1,Nat.le_refl _,ha.2.1,fun _ h=>h⟩
  by_cases hxk:x∈ks.ids
  ·rw [beneath,if_neg hx,if_pos hxk]
   obtain ⟨q',F',j,d',h1,h2,h3,h4,h5,h6⟩:=below_at ks id x nk hxk ha.2.1
   exact ⟨q',F',j,d',h1,h2,h3,by simp only [cnt];omega,h5,fun y hy=>by simp [ids,h6 y hy]⟩
  ·have hxr:x∈r.ids:=by simp [ids,hx,hxk] at h;exact h
   rw [beneath,if_neg hx,if_neg hxk];obtain ⟨q',F',j,d',h1,h2,h3,h4,h5,h6⟩:=below_at r q x nr hxr ha.2.2
   exact ⟨q',F',j,d',h1,h2,h3,by simp only [cnt];omega,h5,fun y hy=>by simp [ids,h6 y hy]⟩
theorem below_ids:∀ (F:Fo) (x y:Int),y∈(F.beneath x).ids→y∈F.ids
 | nil,_,_,h=>by simp [beneath,ids] at h
 | cons id d ks r,x,y,h=>by
  rw [beneath] at h
  split at h
  ·simp [ids,h]
  ·split at h
   ·simp [ids,below_ids ks x y h]
   ·simp [ids,below_ids r x y h]
theorem below_cnt:∀ (F:Fo) (x:Int),(F.beneath x).cnt≤F.cnt
 | nil,_=>Nat.le_refl _
 | cons id d ks r,x=>by
  rw [beneath]
  split
  ·simp only [cnt];omega
  ·split
   ·have:=below_cnt ks x;simp only [cnt];omega
   ·have:=below_cnt r x;simp only [cnt];omega
theorem path_ids:∀ (F:Fo) (x y:Int),y∈F.path x→y∈F.ids
 | nil,_,_,h=>by simp [path] at h
 | cons id d ks r,x,y,h=>by
  rw [path] at h
  split at h
  ·simp at h
  ·split at h
   ·rcases List.mem_append.1 h with h | h
    ·simp [ids,path_ids ks x y h]
    ·simp at h;simp [ids,h]
   ·simp [ids,path_ids r x y h]
theorem path_len:∀ (F:Fo) (x:Int),(F.path x).length≤F.cnt
 | nil,_=>Nat.le_refl _
 | cons id d ks r,x=>by
  rw [path]
  split
  ·simp
  ·split
   ·have:=path_len ks x;simp only [cnt,List.length_append,List.length_cons,List.length_nil];omega
   ·have:=path_len r x;simp only [cnt];omega
theorem roots_ids:∀ (F:Fo) (x:Int),x∈F.roots→x∈F.ids
 | nil,_,h=>by simp [roots] at h
 | cons id d ks r,x,h=>by
  rcases List.mem_cons.1 h with rfl | h
  ·simp [ids]
  ·simp [ids,roots_ids r x h]
end Fo
def topD:NodeD:=⟨0,[],[],[]⟩
def Dw (f:Fo):Fo:=.cons 0 topD f .nil
def gW (f:Fo):Int→Option Ent:=(Dw f).ent 0
def entW (f:Fo) (id:Int):Ent:=(gW f id).getD ⟨0,topD,[]⟩
def kidsW (f:Fo) (id:Int):List Int:=(entW f id).kids
def belowW (f:Fo) (id:Int):List Int:=((Dw f).beneath id).ids
def ancW (f:Fo) (id:Int):List Int:=(Dw f).path id
def besW (f:Fo) (id:Int):List Int:=if id=0 then [] else kidsW f (entW f id).par
def axisW (f:Fo) (axis id:Int):List Int :=
 if axis=1 then kidsW f id else if axis=2 then belowW f id else if axis=3 then id :: belowW f id else if axis=4 then (ancW f id).take 1 else if axis=5 then ancW f id else if axis=8 then [id]
 else if besW f id=[] then [] else if axis=6 then (besW f id).drop ((besW f id).idxOf id+1) else ((besW f id).take ((besW f id).idxOf id)).reverse
def testW (s:StepD) (n:NodeD):Bool :=
 if s.test=1 then decide (n.kind=1) && decide (n.name=s.name) else if s.test=2 then decide (n.kind=1) else if s.test=3 then decide (n.kind=2) else true
def saysW (f:Fo) (id:Int) (text:List UInt8):Bool:=(kidsW f id).any fun x=>decide ((entW f x).d.kind=2) && decide ((entW f x).d.text=text)
def hasW (p:PredD) (a:AttrD):Bool:=decide (a.name=p.name) && (decide (p.kind=3) || decide (a.value=p.value))
def keepsW (f:Fo) (p:PredD) (id:Int) (place many:Nat):Bool :=
 if p.kind=1 then decide ((place:Int)+1=p.num) else if p.kind=2 then decide ((place:Int)=(many:Int)-1) else if p.kind=5 then saysW f id p.value else (entW f id).d.attrs.any (hasW p)
def leftW (f:Fo) (p:PredD) (many:Nat):Nat→List Int→List Int
 | _,[]=>[]
 | n,x :: l=>if keepsW f p x n many then x :: leftW f p many (n+1) l else leftW f p many (n+1) l
def predsW (f:Fo):List PredD→List Int→List Int
 | [],l=>l
 | p :: ps,l=>predsW f ps (leftW f p l.length 0 l)
def stepW (f:Fo) (s:StepD) (id:Int):List Int:=predsW f s.preds ((axisW f s.axis id).filter fun x=>testW s (entW f x).d)
def foundW (f:Fo):List StepD→(Int→Bool)→Int→Bool
 | [],F=>F
 | s :: r,F=>foundW f r fun x=>(0 :: f.ids).any fun id=>F id && decide (x∈stepW f s id)
def evalW (f:Fo) (l:List StepD):List Int:=if rightL l then f.ids.filter (foundW f l fun x=>decide (x=0)) else []
section
variable {f:Fo} {next:Int}
theorem zDx (f:Fo):gW f 0=some ⟨0,topD,f.roots⟩:=by simp [gW,Dw,Fo.ent]
theorem zLy (f:Fo) {x:Int} (hx:x≠0):gW f x=f.ent 0 x:=by
 simp only [gW,Dw,Fo.ent,if_neg hx];cases f.ent 0 x <;> rfl
theorem zBX (h:InvF f next):(Dw f).ids.Nodup:=by
 simp only [Dw,Fo.ids,List.append_nil,List.nodup_cons];exact ⟨fun h0=>by have:=(h.rng 0 h0).1;omega,h.nd⟩
theorem zBG (f:Fo):(Dw f).ids=0 :: f.ids:=by simp [Dw,Fo.ids]
theorem zLe (h:InvF f next):Agr (gW f) 0 (Dw f):=Fo.agr_ent _ _ (zBX h)
theorem zLz {x:Int} (hx:x∈0 :: f.ids):∃ e,gW f x=some e:=Fo.ent_some (Dw f) 0 x (by rw [zBG];exact hx)
theorem zBU {x:Int} {e:Ent} (h:gW f x=some e):entW f x=e:=by unfold entW;rw [h];rfl
theorem zJX {x:Int} (hx:x∈0 :: f.ids):gW f x=some (entW f x):=by
 obtain ⟨e,he⟩:=zLz hx
 rw [zBU he];exact he
theorem zDR (h:InvF f next) {x:Int} (hx:x∈0 :: f.ids):kidsW f x=((Dw f).beneath x).roots:=by
 obtain ⟨q',F',j,d,_,_,h3,_⟩:=Fo.below_at (Dw f) 0 x (zBX h) (by rw [zBG];exact hx) (zLe h)
 unfold kidsW;rw [zBU h3]
theorem zDE {x y:Int} (hy:y∈belowW f x):y∈0 :: f.ids:=by
 have:=Fo.below_ids (Dw f) x y hy
 rwa [zBG] at this
theorem zIV (h:InvF f next) {x:Int} (hx:x∈0 :: f.ids) {y:Int} (hy:y∈kidsW f x):y∈belowW f x:=by
 rw [zDR h hx] at hy;exact Fo.roots_ids _ y hy
theorem zD0 (h:InvF f next) {x:Int} (hx:x∈0 :: f.ids) {y:Int} (hy:y∈kidsW f x):y∈0 :: f.ids:=zDE (zIV h hx hy)
theorem zJD {x y:Int} (hy:y∈ancW f x):y∈0 :: f.ids:=by
 have:=Fo.path_ids (Dw f) x y hy
 rwa [zBG] at this
theorem zDd (f:Fo):ancW f 0=[]:=by simp [ancW,Dw,Fo.path]
theorem zBD (h:InvF f next) {x:Int} (hx:x∈f.ids):ancW f x=(entW f x).par :: ancW f (entW f x).par∧(entW f x).par∈0 :: f.ids:=by
 have hx':x∈(Dw f).ids:=by rw [zBG];exact List.mem_cons_of_mem _ hx
 obtain ⟨e,he,hp⟩:=Fo.path_step (Dw f) 0 x (zBX h) hx'
 have e1:entW f x=e:=zBU he
 rw [e1];rcases hp with ⟨h1,h2,h3⟩ | ⟨h1,h2⟩
 ·have:x=0:=by simpa [Dw,Fo.roots] using h3
  have:=(h.rng x hx).1
  omega
 ·exact ⟨h1,by rwa [zBG] at h2⟩
theorem zLt (f:Fo) (x:Int):(ancW f x).length≤f.cnt+1:=by
 have:=Fo.path_len (Dw f) x
 simp only [Dw,Fo.cnt] at this;unfold ancW Dw;omega
theorem zIF (f:Fo) (x:Int):(belowW f x).length≤f.cnt+1:=by
 have:=Fo.below_cnt (Dw f) x
 unfold belowW;rw [Fo.ids_len];simp only [Dw,Fo.cnt] at this;unfold Dw;omega
theorem zB7 (h:InvF f next) {x:Int} (hx:x∈0 :: f.ids):(kidsW f x).length≤f.cnt+1:=by
 rw [zDR h hx];have:=zFl ((Dw f).beneath x)
 have:=Fo.below_cnt (Dw f) x
 simp only [Dw,Fo.cnt] at this;unfold Dw at *;omega
end
end
section
open Go.RowKit
theorem zJl (v:Value) (w:World):(method 328 24 v "Get").run Tryz.prog w=.ok (19,v) w:=by kernel_rfl
theorem zD9 (v:Value) (w:World):(method 328 24 v "Root").run Tryz.prog w=.ok (173,v) w:=by kernel_rfl
theorem zJm (v:Value) (w:World):(method 328 24 v "Kid").run Tryz.prog w=.ok (42,v) w:=by kernel_rfl
theorem zB8 (v:Value) (w:World):(method 328 24 v "Order").run Tryz.prog w=.ok (30,v) w:=by kernel_rfl
theorem zJI (x:Array Value) (w:World):(callFunc 19 x).run Tryz.prog w=.ok (.enter 19 x) w:=by kernel_rfl
theorem zDt (x:Array Value) (w:World):(callFunc 173 x).run Tryz.prog w=.ok (.enter 173 x) w:=by kernel_rfl
theorem zJJ (x:Array Value) (w:World):(callFunc 42 x).run Tryz.prog w=.ok (.enter 42 x) w:=by kernel_rfl
theorem zB3 (x:Array Value) (w:World):(callFunc 30 x).run Tryz.prog w=.ok (.enter 30 x) w:=by kernel_rfl
theorem zB4 (a0 a1 a2 a3 a4 a5 a6:Value) (w:World):(Instr.field 49 (.agg #[a0,a1,a2,a3,a4,a5,a6]) 1).run Tryz.prog w=.ok a1 w:=by kernel_rfl
theorem zB5 (a0 a1 a2 a3 a4 a5 a6:Value) (w:World):(Instr.field 49 (.agg #[a0,a1,a2,a3,a4,a5,a6]) 3).run Tryz.prog w=.ok a3 w:=by kernel_rfl
theorem zB6 (a0 a1 a2 a3 a4 a5 a6:Value) (w:World):(Instr.field 49 (.agg #[a0,a1,a2,a3,a4,a5,a6]) 6).run Tryz.prog w=.ok a6 w:=by kernel_rfl
end
section
open Go.RowKit Go.Shelf
attribute [local go_sem] zJl zD9 zJm zB8 zJI zDt zJJ zB3 zB4 zB5 zB6
def treeI (t:Nat):Value:=.iface 24 (.pointer (some ⟨t,0,none⟩))
section
variable {M:Nat→Prop} {t:Nat} {f:Fo} {next:Int} {w w':World}
theorem zFu (h:InvF f next) {x:Int} (hx:x∈0 :: f.ids):wfI x:=by
 rcases List.mem_cons.1 hx with rfl | hx
 ·exact ⟨by decide,by decide⟩
 ·have:=h.rng x hx
  have:=h.nx
  exact ⟨by show _≤x;omega,by show x≤_;omega⟩
theorem zGE (h:InvF f next) {x:Int} (hx:x∈f.ids):x≠0∧f.ent 0 x=some (entW f x):=by
 have hx0:x≠0:=fun e=>by subst e;have:=(h.rng 0 hx).1;omega
 have he:=zJX (f:=f) (List.mem_cons_of_mem 0 hx)
 rw [zLy f hx0] at he;exact ⟨hx0,he⟩
theorem zKp (h:InvF f next):f.ent 0 0=none:=Fo.ent_not f 0 0 fun h0=>by have:=(h.rng 0 h0).1;omega
def nodeV (f:Fo) (x:Int) (A:Option Addr) (c:Nat):Array Value:=nodeR x (entW f x) (.slice A (entW f x).d.attrs.length c)
theorem zEA (f:Fo) (x:Int) (A:Option Addr) (c:Nat):(nodeV f x A c).all (·.oneCell')=true:=zGY x _ A _ c
theorem zL8 (h:TreeM M t f next w) {x:Int} (hx:x∈f.ids) :
  Calls Tryz.prog 58 #[.agg #[treeI t],.int .i64 x] w fun er w'=>∃ A c,er=.returned (.agg (nodeV f x A c))∧AttrsOwn w' w.heap.size A c (entW f x).d.attrs∧Below w.heap.size w w':=by
 unfold treeI;obtain ⟨hx0,hx1⟩:=zGE h.inv hx
 have HXE:=Lib.hid hx1
 have hxb:(x == 0)=false:=by simpa using hx0
 obtain ⟨W1,hW1⟩:∃ W1,Hid (W1=(w.alloc (.cells #[.iface 24 (.pointer (some ⟨t,0,none⟩))] 82)).alloc (.cells nodeZ 49)):=⟨_,rfl⟩
 have hb1:Below w.heap.size w W1:=by rw [hW1.out];exact ((Below.refl _ w).alloc (Nat.le_refl _) _).alloc (by simp) _
 have hz1:W1.heap.size=w.heap.size+2:=by rw [hW1.out];simp
 have HX1:Hid (W1.heap[w.heap.size]? = some (.cells #[.iface 24 (.pointer (some ⟨t,0,none⟩))] 82 (0,0))):=by
  show _=_
  rw [hW1.out];exact (Below.heap_alloc _ _ _ (by simp)).trans (heap_alloc_new w _)
 have HY1:Hid (W1.heap[w.heap.size+1]? = some (.cells nodeZ 49 (0,0))):=by
  show _=_
  rw [hW1.out];have:=heap_alloc_new (w.alloc (.cells #[.iface 24 (.pointer (some ⟨t,0,none⟩))] 82)) (.cells nodeZ 49)
  simpa using this
 have HB1:=Lib.hid hb1
 have HZ1:=Lib.hid hz1
 have HT1:=Lib.hid (h.below hb1)
 clear hb1 hz1;clear h hx hx0 hx1
 go_enter Tryz.func58,Tryz.ntmps58
 go_upto_region 1 with (fail)
 change Code.wp _ _ _ _ ((w.alloc (.cells #[.iface 24 (.pointer (some ⟨t,0,none⟩))] 82)).alloc (.cells nodeZ 49))
 rw [← hW1.out];have x0:W1.cell? ⟨w.heap.size,0,none⟩=some (.iface 24 (.pointer (some ⟨t,0,none⟩))):=zAA HX1.out 0 _ rfl
 go_wp2_with fail;refine (zMQ HT1.out HXE.out).mono ?_
 rintro e w2 ⟨A,c,rfl,hown,hb2⟩;obtain ⟨W3,hW3⟩:∃ W3,Hid (W3=w2.alloc (.cells (nodeV f x A c) 49)):=⟨_,rfl⟩
 have hb3:Below w2.heap.size w2 W3:=by rw [hW3.out];exact (Below.refl _ w2).alloc (Nat.le_refl _) _
 have HX3:Hid (W3.heap[w2.heap.size]? = some (.cells (nodeV f x A c) 49 (0,0))):=by show _=_;rw [hW3.out];exact heap_alloc_new w2 _
 have HY3:Hid (W3.heap[w.heap.size+1]? = some (.cells nodeZ 49 (0,0))):=(hb3.block _ (by have:=hb2.size;have:=HZ1.out;omega)).trans ((hb2.block _ (by have:=HZ1.out;omega)).trans HY1.out)
 have HB3:Hid (Below w.heap.size w W3):=HB1.out.trans ((hb2.trans (hb3.mono hb2.size)).mono HB1.out.size)
 have HO3:Hid (AttrsOwn W3 W1.heap.size A c (entW f x).d.attrs):=zAC hown fun b hb=>hb3.block b (zAJ hown hb)
 have HZ3:Hid (W1.heap.size≤w2.heap.size):=hb2.size
 clear x0 hb2 hb3 hown;unfold nodeV nodeR strV at HX3 hW3;unfold nodeR strV
 go_upto_region 2 with (fail)
 rw [← hW3.out];have m0:W3.cell? ⟨w2.heap.size,0,none⟩=some (.int .i64 x):=zAA HX3.out 0 _ rfl
 have m1:W3.cell? ⟨w2.heap.size,1,none⟩=some (.int .i64 (entW f x).par):=zAA HX3.out 1 _ rfl
 have m2:W3.cell? ⟨w2.heap.size,2,none⟩=some (.int .i64 (entW f x).d.kind):=zAA HX3.out 2 _ rfl
 have m3:W3.cell? ⟨w2.heap.size,3,none⟩=some (.int .i64 ((entW f x).kids.length:Int)):=zAA HX3.out 3 _ rfl
 have m4:W3.cell? ⟨w2.heap.size,4,none⟩=some (.string ⟨(entW f x).d.name.toArray⟩):=zAA HX3.out 4 _ rfl
 have m5:W3.cell? ⟨w2.heap.size,5,none⟩=some (.string ⟨(entW f x).d.text.toArray⟩):=zAA HX3.out 5 _ rfl
 have m6:W3.cell? ⟨w2.heap.size,6,none⟩=some (.slice A (entW f x).d.attrs.length c):=zAA HX3.out 6 _ rfl
 go_wp2_with (refine wpList_store_row rfl 49 (.tmp 4) (.tmp 22) rfl (w.heap.size+1) (nodeV f x A c) rfl rfl 49 nodeZ HY3.out (by kernel_rfl) rfl (zEA _ _ _ _) ?_)
 try simp only [Exit.inBlock,Exit.then]
 refine bodyPost_ret (results_cell_row Tryz.results58 _ _ (w.heap.size+1) 49 (nodeV f x A c) (0,0) _ rfl (setRow_heap _ _ _ _ _ _ HY3.out) Tryz.underlying49 rfl (by kernel_rfl)) rfl ?_
 refine ⟨A,c,rfl,zAC (World.ownsRow.mono HO3.out HB1.out.size) fun b hb=>setRow_other _ _ _ _ (fun e'=>?_),?_⟩
 ·have h1:=zAT (World.ownsRow.mono HO3.out (Nat.zero_le _)) HY3.out (fun cur h=>by injection h with _ h _;exact absurd h (by decide))
  exact h1 (by rw [hb,e'])
 ·have h1:=HB3.out
  exact ⟨h1.os,h1.tape,h1.output,by rw [setRow_size];exact h1.size,fun b hb=>(setRow_other _ _ _ _ (by omega)).trans (h1.block b hb)⟩
theorem zEx (f:Fo):nodeV f 0 none 0=#[.int .i64 0,.int .i64 0,.int .i64 0,.int .i64 (f.roots.length:Int),.string ⟨#[]⟩,.string ⟨#[]⟩,.slice none 0 0]:=by
 unfold nodeV;rw [zBU (zDx f)]
 rfl
theorem zK6 (h:TreeM M t f next w) :
  Calls Tryz.prog 58 #[.agg #[treeI t],.int .i64 0] w fun er w'=>er=.returned (.agg (nodeV f 0 none 0))∧Below w.heap.size w w':=by
 unfold treeI;have HI:=Lib.hid h.inv
 obtain ⟨W1,hW1⟩:∃ W1,Hid (W1=(w.alloc (.cells #[.iface 24 (.pointer (some ⟨t,0,none⟩))] 82)).alloc (.cells nodeZ 49)):=⟨_,rfl⟩
 have hb1:Below w.heap.size w W1:=by rw [hW1.out];exact ((Below.refl _ w).alloc (Nat.le_refl _) _).alloc (by simp) _
 have hz1:W1.heap.size=w.heap.size+2:=by rw [hW1.out];simp
 have HX1:Hid (W1.heap[w.heap.size]? = some (.cells #[.iface 24 (.pointer (some ⟨t,0,none⟩))] 82 (0,0))):=by
  show _=_
  rw [hW1.out];exact (Below.heap_alloc _ _ _ (by simp)).trans (heap_alloc_new w _)
 have HY1:Hid (W1.heap[w.heap.size+1]? = some (.cells nodeZ 49 (0,0))):=by
  show _=_
  rw [hW1.out];have:=heap_alloc_new (w.alloc (.cells #[.iface 24 (.pointer (some ⟨t,0,none⟩))] 82)) (.cells nodeZ 49)
  simpa using this
 have HB1:=Lib.hid hb1
 have HZ1:=Lib.hid hz1
 have HT1:=Lib.hid (h.below hb1)
 clear hb1 hz1;clear h
 go_enter Tryz.func58,Tryz.ntmps58
 go_upto_region 1 with (fail)
 change Code.wp _ _ _ _ ((w.alloc (.cells #[.iface 24 (.pointer (some ⟨t,0,none⟩))] 82)).alloc (.cells nodeZ 49))
 rw [← hW1.out];have x0:W1.cell? ⟨w.heap.size,0,none⟩=some (.iface 24 (.pointer (some ⟨t,0,none⟩))):=zAA HX1.out 0 _ rfl
 go_wp2_with fail;refine (zLj HT1.out ⟨by decide,by decide⟩ (zKp HI.out)).mono ?_
 rintro e w2 ⟨rfl,hb2⟩;obtain ⟨W3,hW3⟩:∃ W3,Hid (W3=w2.alloc (.cells nodeZ 49)):=⟨_,rfl⟩
 have hb3:Below w2.heap.size w2 W3:=by rw [hW3.out];exact (Below.refl _ w2).alloc (Nat.le_refl _) _
 have HX3:Hid (W3.heap[w2.heap.size]? = some (.cells nodeZ 49 (0,0))):=by show _=_;rw [hW3.out];exact heap_alloc_new w2 _
 have HY3:Hid (W3.heap[w.heap.size+1]? = some (.cells nodeZ 49 (0,0))):=(hb3.block _ (by have:=hb2.size;have:=HZ1.out;omega)).trans ((hb2.block _ (by have:=HZ1.out;omega)).trans HY1.out)
 have hb13:Below W1.heap.size W1 W3:=hb2.trans (hb3.mono hb2.size)
 have HB3:Hid (Below w.heap.size w W3):=HB1.out.trans (hb13.mono HB1.out.size)
 have HT3:=Lib.hid (HT1.out.below hb13)
 have HN3:Hid (w.heap.size+2≤w2.heap.size):=by have:=hb2.size;have:=HZ1.out;show _≤_;omega
 have HXX3:Hid (W3.heap[w.heap.size]? = some (.cells #[.iface 24 (.pointer (some ⟨t,0,none⟩))] 82 (0,0))):=(hb13.block _ (by have:=HZ1.out;omega)).trans HX1.out
 clear x0 hb2 hb3 hb13;unfold nodeZ;unfold nodeZ at hW3
 go_upto_region 2 with (fail)
 rw [← hW3.out];have x0:W3.cell? ⟨w.heap.size,0,none⟩=some (.iface 24 (.pointer (some ⟨t,0,none⟩))):=zAA HXX3.out 0 _ rfl
 have m0:W3.cell? ⟨w2.heap.size,0,none⟩=some (.int .i64 0):=zAA HX3.out 0 _ rfl
 have m1:W3.cell? ⟨w2.heap.size,1,none⟩=some (.int .i64 0):=zAA HX3.out 1 _ rfl
 have m2:W3.cell? ⟨w2.heap.size,2,none⟩=some (.int .i64 0):=zAA HX3.out 2 _ rfl
 have m3:W3.cell? ⟨w2.heap.size,3,none⟩=some (.int .i64 0):=zAA HX3.out 3 _ rfl
 have m4:W3.cell? ⟨w2.heap.size,4,none⟩=some (.string ⟨#[]⟩):=zAA HX3.out 4 _ rfl
 have m5:W3.cell? ⟨w2.heap.size,5,none⟩=some (.string ⟨#[]⟩):=zAA HX3.out 5 _ rfl
 have m6:W3.cell? ⟨w2.heap.size,6,none⟩=some (.slice none 0 0):=zAA HX3.out 6 _ rfl
 go_upto_region 4 with (refine wpList_store_row rfl 49 (.tmp 5) (.tmp 16) rfl w2.heap.size nodeZ rfl rfl 49 nodeZ HX3.out (by kernel_rfl) rfl zJv ?_)
 rw [setRow_self _ _ _ _ _ HX3.out];have hr1:=HI.out.one
 cases hf:f with
 | nil =>
  have hrn:f.roots.length=0:=by rw [hf];rfl
  have hrt:rootF f=0:=by rw [hf];rfl
  go_wp2_with fail;refine (zG1 HT3.out).mono ?_
  rintro e w4 ⟨rfl,rfl⟩;rw [hrt]
  go_wp2_with (refine wpList_store_row rfl 49 (.tmp 4) (.tmp 22) rfl (w.heap.size+1) (nodeV f 0 none 0) rfl (by rw [zEx,hrn];rfl) 49 nodeZ HY3.out (by kernel_rfl) rfl (zEA _ _ _ _) ?_)
  try simp only [Exit.inBlock,Exit.then]
  refine bodyPost_ret (results_cell_row Tryz.results58 _ _ (w.heap.size+1) 49 (nodeV f 0 none 0) (0,0) _ rfl (setRow_heap _ _ _ _ _ _ HY3.out) Tryz.underlying49 rfl (by kernel_rfl)) rfl ?_
  have h1:=HB3.out
  exact ⟨rfl,h1.os,h1.tape,h1.output,by rw [setRow_size];exact h1.size,fun b hb=>(setRow_other _ _ _ _ (by omega)).trans (h1.block b hb)⟩
 | cons id d ks r =>
  obtain ⟨hr,_⟩:=hr1 id d ks r hf
  have hrn:f.roots.length=1:=by rw [hf,hr];rfl
  have hrt:(rootF f != 0)=true:=by
   have:=(HI.out.rng id (by rw [hf];simp [Fo.ids])).1
   have:rootF f≠0:=by rw [hf];show id≠0;omega
   simpa using this
  obtain ⟨rt,hrt2⟩:∃ rt,Hid (rootF f=rt):=⟨_,rfl⟩
  rw [hrt2.out] at hrt
  go_wp2_with fail;refine (zG1 HT3.out).mono ?_
  rintro e w4 ⟨rfl,rfl⟩;rw [hrt2.out];have f3:=zAV HX3.out 3
  obtain ⟨W5,hW5⟩:∃ W5,Hid (W3.setCell ⟨w2.heap.size,3,none⟩ (.int .i64 1)=W5):=⟨_,rfl⟩
  have HX5:Hid (W5.heap[w2.heap.size]? = some (.cells #[.int .i64 0,.int .i64 0,.int .i64 0,.int .i64 1,.string ⟨#[]⟩,.string ⟨#[]⟩,.slice none 0 0] 49 (0,0))):=by show _=_;rw [← hW5.out];exact Lib.heap_setCell_same (i:=3) HX3.out _
  have hso:∀ b,b≠w2.heap.size→W5.heap[b]? = W3.heap[b]?:=fun b hb=>by rw [← hW5.out];exact Below.heap_setCell _ _ _ _ hb
  have HY5:Hid (W5.heap[w.heap.size+1]? = some (.cells nodeZ 49 (0,0))):=(hso _ (by have:=HN3.out;omega)).trans HY3.out
  have HB5:Hid (Below w.heap.size w W5):=by
   have hb:=HB3.out
   refine ⟨?_,?_,?_,?_,fun b hb'=>(hso b (by have:=HN3.out;omega)).trans (hb.block b hb')⟩
   ·rw [← hW5.out];exact hb.os
   ·rw [← hW5.out];exact hb.tape
   ·rw [← hW5.out];exact hb.output
   ·rw [← hW5.out];simp;exact hb.size
  clear hso
  go_upto_region 6 with (fail)
  rw [hW5.out];clear x0 m0 m1 m2 m3 m4 m5 m6 f3;have m0:W5.cell? ⟨w2.heap.size,0,none⟩=some (.int .i64 0):=zAA HX5.out 0 _ rfl
  have m1:W5.cell? ⟨w2.heap.size,1,none⟩=some (.int .i64 0):=zAA HX5.out 1 _ rfl
  have m2:W5.cell? ⟨w2.heap.size,2,none⟩=some (.int .i64 0):=zAA HX5.out 2 _ rfl
  have m3:W5.cell? ⟨w2.heap.size,3,none⟩=some (.int .i64 1):=zAA HX5.out 3 _ rfl
  have m4:W5.cell? ⟨w2.heap.size,4,none⟩=some (.string ⟨#[]⟩):=zAA HX5.out 4 _ rfl
  have m5:W5.cell? ⟨w2.heap.size,5,none⟩=some (.string ⟨#[]⟩):=zAA HX5.out 5 _ rfl
  have m6:W5.cell? ⟨w2.heap.size,6,none⟩=some (.slice none 0 0):=zAA HX5.out 6 _ rfl
  go_wp2_with (refine wpList_store_row rfl 49 (.tmp 4) (.tmp 22) rfl (w.heap.size+1) (nodeV f 0 none 0) rfl (by rw [zEx,hrn];rfl) 49 nodeZ HY5.out (by kernel_rfl) rfl (zEA _ _ _ _) ?_)
  try simp only [Exit.inBlock,Exit.then]
  refine bodyPost_ret (results_cell_row Tryz.results58 _ _ (w.heap.size+1) 49 (nodeV f 0 none 0) (0,0) _ rfl (setRow_heap _ _ _ _ _ _ HY5.out) Tryz.underlying49 rfl (by kernel_rfl)) rfl ?_
  have h1:=HB5.out
  exact ⟨rfl,h1.os,h1.tape,h1.output,by rw [setRow_size];exact h1.size,fun b hb=>(setRow_other _ _ _ _ (by omega)).trans (h1.block b hb)⟩
theorem zCL (h:TreeM M t f next w) {x:Int} (hx:x∈0 :: f.ids) :
  Calls Tryz.prog 58 #[.agg #[treeI t],.int .i64 x] w fun er w'=>∃ A c,er=.returned (.agg (nodeV f x A c))∧AttrsOwn w' w.heap.size A c (entW f x).d.attrs∧Below w.heap.size w w':=by
 rcases List.mem_cons.1 hx with rfl | hx
 ·refine (zK6 h).mono ?_
  rintro e w' ⟨rfl,hb⟩;refine ⟨none,0,rfl,?_,hb⟩
  rw [zBU (zDx f)];exact ⟨rfl,.inl ⟨rfl,rfl⟩⟩
 ·exact zL8 h hx
end
end
section
open Go.RowKit
def StabE (E:Nat→Prop) (N:Nat) (Fp:Nat→Prop) (p:World→Prop):Prop:=∀ A B,p A→Turn (fun b=>(N≤b ∧ ¬ Fp b)∨E b) A B→p B
def GrowsE (E M M':Nat→Prop) (w w':World):Prop:=Turn (fun b=>M b∨E b) w w' ∧ ∀ b,M' b→M b∨w.heap.size≤b
def LeftE (E Fp:Nat→Prop) (W:World) (p:(Nat→Prop)→World→Prop) (W':World):Prop:=∃ Fp',GrowsE E Fp Fp' W W'∧(∀ b,Fp' b→b<W'.heap.size)∧p Fp' W'
theorem GrowsE.grow {E M M' M'':Nat→Prop} {a b c:World} (h:GrowsE E M M' a b) (k:Grows M' M'' b c):GrowsE E M M'' a c:=by
 refine ⟨⟨k.1.os.trans h.1.os,k.1.tape.trans h.1.tape,k.1.output.trans h.1.output,Nat.le_trans h.1.size k.1.size,fun i hi hm=>?_⟩,fun i hi=>?_⟩
 ·refine (k.1.block i (Nat.lt_of_lt_of_le hi h.1.size) (fun hm'=>?_)).trans (h.1.block i hi hm)
  rcases h.2 i hm' with h' | h'
  ·exact hm (.inl h')
  ·omega
 ·rcases k.2 i hi with h' | h'
  ·exact h.2 i h'
  ·exact .inr (Nat.le_trans h.1.size h')
theorem GrowsE.of {E M M':Nat→Prop} {a b:World} (h:Grows M M' a b):GrowsE E M M' a b:=⟨h.1.mono fun _ h=>.inl h,h.2⟩
theorem GrowsE.none {M M':Nat→Prop} {a b:World} (h:GrowsE (fun _=>False) M M' a b):Grows M M' a b:=⟨h.1.mono fun _ h=>h.elim id False.elim,h.2⟩
theorem LeftE.none {Fp:Nat→Prop} {W W':World} {p:(Nat→Prop)→World→Prop} (h:LeftE (fun _=>False) Fp W p W'):Left Fp W p W':=by
 obtain ⟨F,h1,h2⟩:=h
 exact ⟨F,h1.none,h2⟩
theorem LeftE.of {E Fp:Nat→Prop} {W W':World} {p:(Nat→Prop)→World→Prop} (h:Left Fp W p W'):LeftE E Fp W p W':=by
 obtain ⟨F,h1,h2⟩:=h
 exact ⟨F,.of h1,h2⟩
def IterE {α:Type} (P:Program) (gf:Nat) (lb:Array Value) (encs:α→Array Value) (xs:List α) (D E:Nat→Prop) (w:World):Prop :=
 ∀ (n l:Nat) (J:Nat→(Nat→Prop)→World→Prop) (Jx:(Nat→Prop)→World→Prop) (W:World) (Fp0:Nat→Prop),
  (∀ b,D b→b<w.heap.size∧W.heap[b]? = w.heap[b]?)→w.heap.size≤W.heap.size→(∀ b,Fp0 b→b<W.heap.size ∧ ¬ D b) →
  (∀ i Fp,StabE E W.heap.size Fp (J i Fp))→(∀ Fp,StabE E W.heap.size Fp (Jx Fp)) →
  (∀ i x Fp W1,xs[i]? = some x→J i Fp W1→W.heap.size≤W1.heap.size→(∀ b,Fp b→b<W1.heap.size)→YieldAt Fence.wide n P l (encs x) W1 fun e W' =>
   (e=.returned (.bool true)∧Left Fp W1 (J (i+1)) W')∨(e=.returned (.bool false)∧Left Fp W1 Jx W')) →
  J 0 Fp0 W→CallsIn Fence.wide n P gf (#[.func (.yield l) #[] #[]]++lb) W fun e W'=>(∃ v,e=.returned v)∧(LeftE E Fp0 W (J xs.length) W'∨LeftE E Fp0 W Jx W')
theorem IterG.toE {α:Type} {P:Program} {gf:Nat} {lb:Array Value} {encs:α→Array Value} {xs:List α} {D:Nat→Prop} {w:World} (h:IterG P gf lb encs xs D w):IterE P gf lb encs xs D (fun _=>False) w:=by
 intro n l J Jx W Fp0 hD hsz hC hJ hJx hY h0;have tf:∀ {N:Nat} {Fp:Nat→Prop} {p:World→Prop},StabE (fun _=>False) N Fp p→StabF N Fp p:=fun hs A B ha hk=>hs A B ha (hk.mono fun _ h=>.inl h)
 refine (h n l J Jx W Fp0 hD hsz hC (fun i Fp=>tf (hJ i Fp)) (fun Fp=>tf (hJx Fp)) hY h0).mono ?_
 rintro e W' ⟨hv,h | h⟩
 ·exact ⟨hv,.inl (.of h)⟩
 ·exact ⟨hv,.inr (.of h)⟩
theorem zE8 {α:Type} {P:Program} {n:Nat} {g:Operand} {ps:Array Tmp} {assign body:Code} {Q:Exit→Act→World→Prop} {a:Act} {w:World}
  {gf:Nat} {lb:Array Value} (hg:a.eval g=.func (.func gf) #[] lb) (eg:∀ args w,(callFunc gf args).run P w=.ok (.enter gf args) w)
  {xs:List α} {encs:α→Array Value} {D E:Nat→Prop} {w0:World} (hit:IterE P gf lb encs xs D E w0) (hED:∀ b,E b→D b) (hD:∀ b,D b→b<w0.heap.size∧w.heap[b]? = w0.heap[b]?) (hsz:w0.heap.size≤w.heap.size)
  (hps:∀ x,(encs x).size=ps.size) (F0:Nat→Prop) (hC:∀ b,F0 b→b<w.heap.size ∧ ¬ D b)
  (I:Nat→(Nat→Prop)→World→Prop) (Ix:Code→(Nat→Prop)→World→Prop) (hI:∀ i Fp,StabE E w.heap.size Fp (I i Fp)) (hIx:∀ c Fp,StabE E w.heap.size Fp (Ix c Fp)) (h0:I 0 F0 w) (a₁:α→Act)
  (hassign:∀ (l:Nat) (x:α) (W:World) (K:Act→World→Prop),K (a₁ x) W→assign.wpIn (Fence.wide.inRound l) n P (Exit.then K (fun _ _ _=>False)) { tmps:=(ps.zip (encs x)).foldl (fun t (p,v)=>t.setIfInBounds p v) a.tmps,defers:=[] } W)
  (hbody:∀ (l i:Nat) (x:α) (Fp:Nat→Prop) (W:World),xs[i]? = some x→I i Fp W→w.heap.size≤W.heap.size→(∀ b,Fp b→b<W.heap.size)→w.heap.size<l→(∃ r,W.heap[l]? = some (.loop r)) → ¬ Fp l→body.wpIn (Fence.wide.inRound l) n P (bodyR I Ix i Fp W) (a₁ x) W)
  (hdone:∀ (W:World),LeftE E F0 w (fun Fp V=>I xs.length Fp V ∧ ¬ Fp w.heap.size) W→W.heap[w.heap.size]? = some (.deferred (some []))→Q .normal { a with defers:={ target:=.collected w.heap.size,args:=#[] } :: a.defers } W)
  (hstop:∀ (c:Code) (W:World),LeftE E F0 w (fun Fp V=>Ix c Fp V ∧ ¬ Fp w.heap.size) W→W.heap[w.heap.size]? = some (.deferred (some []))→c.wpIn Fence.wide n P Q { a with defers:={ target:=.collected w.heap.size,args:=#[] } :: a.defers } W) :
  (Code.rangeFunc g ps assign body).wpIn Fence.wide n P Q a w:=by
 refine wpIn_rangeFunc ?_
 intro fn hfn;obtain ⟨q,hq⟩:∃ q,q=w.heap.size:=⟨_,rfl⟩
 have hEq:∀ b,E b→b<q:=fun b hb=>by have:=(hD b (hED b hb)).1;omega
 obtain ⟨rec,hrec⟩:∃ rec:LoopState→Option Code→Loop,rec=fun st pe=>{ state:=st,pending:=pe,fn,tmps:=a.tmps,params:=ps,assign,body,defers:=w.heap.size }:=⟨_,rfl⟩
 obtain ⟨W1,hW1⟩:∃ W1,(w.alloc (.deferred (some []))).alloc (.loop (rec .ready none))=W1:=⟨_,rfl⟩
 have hz1:W1.heap.size=q+2:=by rw [← hW1,hq];simp
 have hL1:W1.heap[q+1]? = some (.loop (rec .ready none)):=by
  rw [← hW1,hq];have:=World.alloc_heap_new (w.alloc (.deferred (some []))) (.loop (rec .ready none));rwa [World.size_alloc] at this
 have hK1:W1.heap[q]? = some (.deferred (some [])):=by
  rw [← hW1,hq];exact (Below.heap_alloc _ _ _ (by simp)).trans (World.alloc_heap_new w _)
 have hb1:Below w.heap.size w W1:=by rw [← hW1];exact ((Below.refl _ w).alloc (Nat.le_refl _) _).alloc (by simp) _
 let Z (p:(Nat→Prop)→World→Prop) (st:LoopState) (pe:Option Code) (Fi:Nat→Prop) (W:World):Prop :=
  ∃ Fb:Nat→Prop,(∀ b,Fi b ↔ Fb b∨b=q+1)∧(∀ b,Fb b→b≠q+1∧b≠q)∧GrowsE E F0 Fb w W∧(∀ b,Fb b→b<W.heap.size)∧p Fb W∧W.heap[q+1]? = some (.loop (rec st pe))∧W.heap[q]? = some (.deferred (some []))
 have stabZ:∀ (p:(Nat→Prop)→World→Prop) st pe Fi,(∀ Fb,StabE E w.heap.size Fb (p Fb))→StabE E W1.heap.size Fi (Z p st pe Fi):=by
  rintro p st pe Fi hp A B ⟨Fb,e1,e2,e3,e4,e5,e6,e7⟩ hk;have hz6:=(Array.getElem?_eq_some_iff.1 e6).1
  have hz7:=(Array.getElem?_eq_some_iff.1 e7).1
  have hk':Turn (fun b=>(w.heap.size≤b ∧ ¬ Fb b)∨E b) A B:=hk.mono fun b hb=>by
   rcases hb with ⟨q1,q2⟩ | hb
   ·exact .inl ⟨by omega,fun h=>q2 ((e1 b).2 (.inl h))⟩
   ·exact .inr hb
  have kb:∀ b,b<A.heap.size→b<q+2 → ¬ E b→B.heap[b]? = A.heap[b]?:=fun b h1 h2 h3=>hk.block b h1 (fun h=>by
   rcases h with h | h
   ·omega
   ·exact h3 h)
  refine ⟨Fb,e1,e2,⟨⟨hk.os.trans e3.1.os,hk.tape.trans e3.1.tape,hk.output.trans e3.1.output,Nat.le_trans e3.1.size hk.size,fun b hb hf=>?_⟩,e3.2⟩,fun b hb=>Nat.lt_of_lt_of_le (e4 b hb) hk.size,hp Fb A B e5 hk',(kb _ hz6 (by omega) (fun h=>by have:=hEq _ h;omega)).trans e6,(kb _ hz7 (by omega) (fun h=>by have:=hEq _ h;omega)).trans e7⟩
  exact (kb b (Nat.lt_of_lt_of_le hb e3.1.size) (by omega) (fun h=>hf (.inr h))).trans (e3.1.block b hb hf)
 refine ⟨q+1,[{ target:=.collected q,args:=#[] }],W1,{ target:=.fn (.func gf) lb,args:=#[.func (.yield (q+1)) #[] #[]] },W1,gf,
  #[.func (.yield (q+1)) #[] #[]]++lb,W1,?_,?_,?_,?_,fun h=>(by cases h),?_⟩
 ·rw [← hW1,hrec,hq];exact run_enterLoop_outer _ _ _ _ _
 ·simp only [resolve,hg]
  simp [go_sem]
 ·intro f' _;trivial
 ·simp [invoke,go_sem,eg]
 ·have start:∀ p:(Nat→Prop)→World→Prop,(∀ Fb,StabE E w.heap.size Fb (p Fb))→p F0 w→Z p .ready none (fun b=>F0 b∨b=q+1) W1:=fun p hp hp0 =>
   ⟨F0,fun b=>Iff.rfl,fun b hb=>by have:=(hC b hb).1;omega,⟨Turn.of_below hb1,fun b hb=>.inl hb⟩,fun b hb=>by have:=(hC b hb).1;omega,hp F0 w W1 hp0 (Turn.of_below hb1),hL1,hK1⟩
  refine (hit (n-1) (q+1) (fun i=>Z (I i) .ready none) (fun Fi W=>∃ c,Z (Ix c) .done (some c) Fi W) W1 (fun b=>F0 b∨b=q+1) (fun b hb=>?_) (by omega) (fun b hb=>?_)
   (fun i Fi=>stabZ _ _ _ Fi (hI i)) (fun Fi A B ⟨c,ha⟩ hb=>⟨c,stabZ _ _ _ Fi (hIx c) A B ha hb⟩) ?_ (start _ (hI 0) h0)).mono ?_
  ·obtain ⟨q1,q2⟩:=hD b hb
   exact ⟨q1,(hb1.block b (by omega)).trans q2⟩
  ·rcases hb with hb | rfl
   ·obtain ⟨q1,q2⟩:=hC b hb
    exact ⟨by omega,q2⟩
   ·exact ⟨by omega,fun hd=>by have:=(hD _ hd).1;omega⟩
  ·rintro i x Fi W hx ⟨Fb,e1,e2,e3,e4,hi,hl,hk⟩ hsw hFi
   have hlt:q+1<W.heap.size:=(Array.getElem?_eq_some_iff.1 hl).1
   have hy:=run_yield (P:=P) (args:=encs x) hl (by rw [hrec];exact hps x)
   rw [hrec] at hy;refine ⟨fn,_,assign,body,hy,RoundIn.anyD (roundIn_of_wpIn hfn (hassign _ x W _ ?_))⟩
   clear hy;refine ⟨_,run_beginRound hl (by rw [hrec]),?_⟩
   obtain ⟨W2,hW2⟩:∃ W2,W2=W.putObj (q+1) (.loop { rec .ready none with state:=.busy }):=⟨_,rfl⟩
   have hl2:W2.heap[q+1]? = some (.loop { rec .ready none with state:=.busy }):=by rw [hW2];exact World.putObj_heap_same hlt
   have hk2:W2.heap[q]? = some (.deferred (some [])):=by rw [hW2];exact (World.putObj_heap_other (by omega)).trans hk
   have hz2:W2.heap.size=W.heap.size:=by rw [hW2];simp
   have ht2:Turn Fi W W2:=by rw [hW2];exact zAg W _ ((e1 _).2 (.inr rfl))
   have kp:∀ (p:(Nat→Prop)→World→Prop) (Fb':Nat→Prop) (V:World) (o:Obj),(∀ F,StabE E w.heap.size F (p F))→(∀ b,Fb' b→b≠q+1)→p Fb' V→p Fb' (V.putObj (q+1) o):=fun p Fb' V o hp hne hv =>
    hp Fb' V _ hv (zAg V o (.inl ⟨by omega,fun h=>hne _ h rfl⟩))
   have hi2:I i Fb W2:=by rw [hW2];exact kp _ _ _ _ (hI i) (fun b hb=>(e2 b hb).1) hi
   rw [← hW2];refine wpIn_mono (hbody _ i x Fb W2 hx hi2 (by omega) (fun b hb=>by rw [hz2];exact e4 b hb) (by omega) ⟨_,hl2⟩ (fun h=>(e2 _ h).1 rfl)) ?_
   have fin:∀ (p:(Nat→Prop)→World→Prop) (jump:Option Code) (W3:World),(∀ F,StabE E w.heap.size F (p F))→Left Fb W2 p W3 →
     (Instr.endRound (q+1) jump).run P W3=.ok (.bool jump.isNone) (W3.putObj (q+1) (.loop (rec (if jump.isNone then .ready else .done) jump))) ∧
     Left Fi W (Z p (if jump.isNone then .ready else .done) jump) (W3.putObj (q+1) (.loop (rec (if jump.isNone then .ready else .done) jump))):=by
    rintro p jump W3 hp ⟨Fb',g1,g2,g3⟩;have hcn:∀ b,Fb' b→b≠q+1∧b≠q:=fun b hb=>by
     rcases g1.2 b hb with h | h
     ·exact e2 b h
     ·omega
    have hl3:W3.heap[q+1]? = some (.loop { rec .ready none with state:=.busy }):=(g1.1.block _ (by omega) (fun h=>(e2 _ h).1 rfl)).trans hl2
    have hk3:W3.heap[q]? = some (.deferred (some [])):=(g1.1.block _ (by omega) (fun h=>(e2 _ h).2 rfl)).trans hk2
    have hz3:=(Array.getElem?_eq_some_iff.1 hl3).1
    have hrun:=run_endRound (P:=P) jump hl3
    refine ⟨by rw [hrec] at hrun ⊢;exact hrun,fun b=>Fb' b∨b=q+1,⟨?_,fun b hb=>?_⟩,fun b hb=>?_,Fb',fun b=>Iff.rfl,hcn,?_,fun b hb=>by simp;exact g2 b hb,kp _ _ _ _ hp (fun b hb=>(hcn b hb).1) g3,World.putObj_heap_same hz3,(World.putObj_heap_other (by omega)).trans hk3⟩
    ·have t3:Turn Fi W2 W3:=g1.1.mono fun b hb=>(e1 b).2 (.inl hb)
     exact (ht2.trans t3).trans (zAg W3 _ ((e1 _).2 (.inr rfl)))
    ·rcases hb with hb | rfl
     ·rcases g1.2 b hb with h | h
      ·exact .inl ((e1 b).2 (.inl h))
      ·exact .inr (by omega)
     ·exact .inl ((e1 _).2 (.inr rfl))
    ·rcases hb with hb | rfl
     ·simp;exact g2 b hb
     ·simp;exact hz3
    ·have s1:GrowsE E F0 Fb w W2:=by
      rw [hW2];exact ⟨⟨e3.1.os,e3.1.tape,e3.1.output,by simp;exact e3.1.size,fun b hb hf=>(World.putObj_heap_other (by omega)).trans (e3.1.block b hb hf)⟩,e3.2⟩
     have s2:=s1.grow g1
     exact ⟨⟨s2.1.os,s2.1.tape,s2.1.output,by simp;exact s2.1.size,fun b hb hf=>(World.putObj_heap_other (by omega)).trans (s2.1.block b hb hf)⟩,s2.2⟩
   rintro e a3 W3 hp;cases e with
   | normal =>
    obtain ⟨hr,hl4⟩:=fin _ none W3 (hI _) hp
    exact ⟨_,_,hr,.inl ⟨rfl,hl4⟩⟩
   | ret =>
    obtain ⟨hr,Fp',h1,h2,h3⟩:=fin _ (some .ret) W3 (hIx _) hp
    exact ⟨_,_,hr,.inr ⟨rfl,Fp',h1,h2,_,h3⟩⟩
   | exit id =>
    obtain ⟨hr,Fp',h1,h2,h3⟩:=fin _ (some (.exit id)) W3 (hIx _) hp
    exact ⟨_,_,hr,.inr ⟨rfl,Fp',h1,h2,_,h3⟩⟩
   | goto t =>
    obtain ⟨hr,Fp',h1,h2,h3⟩:=fin _ (some (.goto t)) W3 (hIx _) hp
    exact ⟨_,_,hr,.inr ⟨rfl,Fp',h1,h2,_,h3⟩⟩
   | panic ch=>exact hp.elim
   | outgrown=>exact hp.elim
  ·have out:∀ (p:(Nat→Prop)→World→Prop) st pe Fi (W2:World) (o:Obj),(∀ F,StabE E w.heap.size F (p F))→Z p st pe Fi W2→LeftE E F0 w (fun Fp V=>p Fp V ∧ ¬ Fp w.heap.size) (W2.putObj (q+1) o)∧(W2.putObj (q+1) o).heap[w.heap.size]? = some (.deferred (some [])):=by
    rintro p st pe Fi W2 o hp ⟨Fb,e1,e2,e3,e4,e5,e6,e7⟩;refine ⟨⟨Fb,⟨⟨e3.1.os,e3.1.tape,e3.1.output,by simp;exact e3.1.size,fun b hb hf=>(World.putObj_heap_other (by omega)).trans (e3.1.block b hb hf)⟩,e3.2⟩,fun b hb=>by simp;exact e4 b hb,hp Fb W2 _ e5 (zAg W2 o (.inl ⟨by omega,fun h=>(e2 _ h).1 rfl⟩)),fun h=>(e2 _ h).2 hq.symm⟩,?_⟩
    rw [← hq];exact (World.putObj_heap_other (by omega)).trans e7
   rintro e W2 ⟨⟨v,rfl⟩,(⟨Fi,_,_,hz⟩ | ⟨Fi,_,_,c,hz⟩)⟩
   ·have hl:=hz
    obtain ⟨_,_,_,_,_,_,hl,_⟩:=hl
    obtain ⟨o1,o2⟩:=out _ _ _ _ _ (.loop { rec .ready none with state:=.exhausted }) (hI _) hz
    rw [hq];exact ⟨none,_,by have:=run_endLoop (P:=P) hl (by rw [hrec];simp);rw [hrec] at this;rw [← hq];exact this,hdone _ (by rw [hrec] at o1;exact o1) (by rw [hrec] at o2;exact o2)⟩
   ·have hl:=hz
    obtain ⟨_,_,_,_,_,_,hl,_⟩:=hl
    obtain ⟨o1,o2⟩:=out _ _ _ _ _ (.loop { rec .done (some c) with state:=.exhausted }) (hIx c) hz
    rw [hq];exact ⟨some c,_,by have:=run_endLoop (P:=P) hl (by rw [hrec];simp);rw [hrec] at this;rw [← hq];exact this,hstop c _ (by rw [hrec] at o1;exact o1) (by rw [hrec] at o2;exact o2)⟩
theorem zIn {α:Type} {P:Program} {n:Nat} {g:Operand} {ps:Array Tmp} {assign body:Code} {Q:Exit→Act→World→Prop} {a:Act} {w:World} {l₀:Nat} {r₀:Loop} (hl₀:w.heap[l₀]? = some (.loop r₀))
  {gf:Nat} {lb:Array Value} (hg:a.eval g=.func (.func gf) #[] lb) (eg:∀ args w,(callFunc gf args).run P w=.ok (.enter gf args) w)
  {xs:List α} {encs:α→Array Value} {D:Nat→Prop} {w0:World} (hit:IterG P gf lb encs xs D w0) (hD:∀ b,D b→b<w0.heap.size∧w.heap[b]? = w0.heap[b]?) (hsz:w0.heap.size≤w.heap.size)
  (hps:∀ x,(encs x).size=ps.size) (F0:Nat→Prop) (hC:∀ b,F0 b→b<w.heap.size ∧ ¬ D b)
  (I:Nat→(Nat→Prop)→World→Prop) (Ix:Code→(Nat→Prop)→World→Prop) (hI:∀ i Fp,StabF w.heap.size Fp (I i Fp)) (hIx:∀ c Fp,StabF w.heap.size Fp (Ix c Fp)) (h0:I 0 F0 w) (a₁:α→Act)
  (hassign:∀ (l:Nat) (x:α) (W:World) (K:Act→World→Prop),K (a₁ x) W→assign.wpIn (Fence.wide.inRound l) n P (Exit.then K (fun _ _ _=>False)) { tmps:=(ps.zip (encs x)).foldl (fun t (p,v)=>t.setIfInBounds p v) a.tmps,defers:=[] } W)
  (hbody:∀ (l i:Nat) (x:α) (Fp:Nat→Prop) (W:World),xs[i]? = some x→I i Fp W→w.heap.size≤W.heap.size→(∀ b,Fp b→b<W.heap.size)→body.wpIn (Fence.wide.inRound l) n P (bodyR I Ix i Fp W) (a₁ x) W)
  (hdone:∀ (W:World),Left F0 w (I xs.length) W→Q .normal a W)
  (hstop:∀ (c:Code) (W:World),Left F0 w (Ix c) W→c.wpIn (Fence.wide.inRound l₀) n P Q a W) :
  (Code.rangeFunc g ps assign body).wpIn (Fence.wide.inRound l₀) n P Q a w:=by
 refine wpIn_rangeFunc ?_
 intro fn hfn;obtain ⟨q,hq⟩:∃ q,q=w.heap.size:=⟨_,rfl⟩
 obtain ⟨rec,hrec⟩:∃ rec:LoopState→Option Code→Loop,rec=fun st pe=>{ state:=st,pending:=pe,fn,tmps:=a.tmps,params:=ps,assign,body,defers:=r₀.defers }:=⟨_,rfl⟩
 obtain ⟨W1,hW1⟩:∃ W1,w.alloc (.loop (rec .ready none))=W1:=⟨_,rfl⟩
 have hz1:W1.heap.size=q+1:=by rw [← hW1,hq];simp
 have hL1:W1.heap[q]? = some (.loop (rec .ready none)):=by rw [← hW1,hq];exact World.alloc_heap_new w _
 have hb1:Below w.heap.size w W1:=by rw [← hW1];exact (Below.refl _ w).alloc (Nat.le_refl _) _
 let Z (p:(Nat→Prop)→World→Prop) (st:LoopState) (pe:Option Code) (Fi:Nat→Prop) (W:World):Prop :=
  ∃ Fb:Nat→Prop,(∀ b,Fi b ↔ Fb b∨b=q)∧(∀ b,Fb b→b≠q)∧Grows F0 Fb w W∧(∀ b,Fb b→b<W.heap.size)∧p Fb W∧W.heap[q]? = some (.loop (rec st pe))
 have stabZ:∀ (p:(Nat→Prop)→World→Prop) st pe Fi,(∀ Fb,StabF w.heap.size Fb (p Fb))→StabF W1.heap.size Fi (Z p st pe Fi):=by
  rintro p st pe Fi hp A B ⟨Fb,e1,e2,e3,e4,e5,e6⟩ hk;have hz6:=(Array.getElem?_eq_some_iff.1 e6).1
  have hk':Turn (fun b=>w.heap.size≤b ∧ ¬ Fb b) A B:=hk.mono fun b ⟨q1,q2⟩=>⟨by omega,fun h=>q2 ((e1 b).2 (.inl h))⟩
  refine ⟨Fb,e1,e2,⟨⟨hk.os.trans e3.1.os,hk.tape.trans e3.1.tape,hk.output.trans e3.1.output,Nat.le_trans e3.1.size hk.size,fun b hb hf=>?_⟩,e3.2⟩,fun b hb=>Nat.lt_of_lt_of_le (e4 b hb) hk.size,hp Fb A B e5 hk',(Keep.block hk hz6 (.inl (by omega))).trans e6⟩
  exact (Keep.block hk (Nat.lt_of_lt_of_le hb e3.1.size) (.inl (by omega))).trans (e3.1.block b hb hf)
 refine ⟨q,[],W1,{ target:=.fn (.func gf) lb,args:=#[.func (.yield q) #[] #[]] },W1,gf,#[.func (.yield q) #[] #[]]++lb,W1,?_,?_,?_,?_,fun h=>(by cases h),?_⟩
 ·rw [← hW1,hrec,hq];exact run_enterLoop_inner hl₀ _ _ _ _ _
 ·simp only [resolve,hg]
  simp [go_sem]
 ·intro f' _;trivial
 ·simp [invoke,go_sem,eg]
 ·have start:∀ p:(Nat→Prop)→World→Prop,(∀ Fb,StabF w.heap.size Fb (p Fb))→p F0 w→Z p .ready none (fun b=>F0 b∨b=q) W1:=fun p hp hp0 =>
   ⟨F0,fun b=>Iff.rfl,fun b hb=>by have:=(hC b hb).1;omega,⟨Turn.of_below hb1,fun b hb=>.inl hb⟩,fun b hb=>by have:=(hC b hb).1;omega,hp F0 w W1 hp0 (Keep.of_below hb1),hL1⟩
  refine (hit (n-1) q (fun i=>Z (I i) .ready none) (fun Fi W=>∃ c,Z (Ix c) .done (some c) Fi W) W1 (fun b=>F0 b∨b=q) (fun b hb=>?_) (by omega) (fun b hb=>?_)
   (fun i Fi=>stabZ _ _ _ Fi (hI i)) (fun Fi A B ⟨c,ha⟩ hb=>⟨c,stabZ _ _ _ Fi (hIx c) A B ha hb⟩) ?_ (start _ (hI 0) h0)).mono ?_
  ·obtain ⟨q1,q2⟩:=hD b hb
   exact ⟨q1,(hb1.block b (by omega)).trans q2⟩
  ·rcases hb with hb | rfl
   ·obtain ⟨q1,q2⟩:=hC b hb
    exact ⟨by omega,q2⟩
   ·exact ⟨by omega,fun hd=>by have:=(hD _ hd).1;omega⟩
  ·rintro i x Fi W hx ⟨Fb,e1,e2,e3,e4,hi,hl⟩ hsw hFi
   have hlt:q<W.heap.size:=(Array.getElem?_eq_some_iff.1 hl).1
   have hy:=run_yield (P:=P) (args:=encs x) hl (by rw [hrec];exact hps x)
   rw [hrec] at hy;refine ⟨fn,_,assign,body,hy,RoundIn.anyD (roundIn_of_wpIn hfn (hassign _ x W _ ?_))⟩
   clear hy;refine ⟨_,run_beginRound hl (by rw [hrec]),?_⟩
   obtain ⟨W2,hW2⟩:∃ W2,W2=W.putObj q (.loop { rec .ready none with state:=.busy }):=⟨_,rfl⟩
   have hl2:W2.heap[q]? = some (.loop { rec .ready none with state:=.busy }):=by rw [hW2];exact World.putObj_heap_same hlt
   have hz2:W2.heap.size=W.heap.size:=by rw [hW2];simp
   have ht2:Turn Fi W W2:=by rw [hW2];exact zAg W _ ((e1 _).2 (.inr rfl))
   have kp:∀ (p:(Nat→Prop)→World→Prop) (Fb':Nat→Prop) (V:World) (o:Obj),(∀ F,StabF w.heap.size F (p F))→(∀ b,Fb' b→b≠q)→p Fb' V→p Fb' (V.putObj q o):=fun p Fb' V o hp hne hv =>
    hp Fb' V _ hv (zAg V o ⟨by omega,fun h=>hne _ h rfl⟩)
   have hi2:I i Fb W2:=by rw [hW2];exact kp _ _ _ _ (hI i) e2 hi
   rw [← hW2];refine wpIn_mono (hbody _ i x Fb W2 hx hi2 (by omega) (fun b hb=>by rw [hz2];exact e4 b hb)) ?_
   have fin:∀ (p:(Nat→Prop)→World→Prop) (jump:Option Code) (W3:World),(∀ F,StabF w.heap.size F (p F))→Left Fb W2 p W3 →
     (Instr.endRound q jump).run P W3=.ok (.bool jump.isNone) (W3.putObj q (.loop (rec (if jump.isNone then .ready else .done) jump))) ∧
     Left Fi W (Z p (if jump.isNone then .ready else .done) jump) (W3.putObj q (.loop (rec (if jump.isNone then .ready else .done) jump))):=by
    rintro p jump W3 hp ⟨Fb',g1,g2,g3⟩;have hcn:∀ b,Fb' b→b≠q:=fun b hb=>by
     rcases g1.2 b hb with h | h
     ·exact e2 b h
     ·omega
    have hl3:W3.heap[q]? = some (.loop { rec .ready none with state:=.busy }):=(g1.1.block _ (by omega) (fun h=>e2 _ h rfl)).trans hl2
    have hz3:=(Array.getElem?_eq_some_iff.1 hl3).1
    have hrun:=run_endRound (P:=P) jump hl3
    refine ⟨by rw [hrec] at hrun ⊢;exact hrun,fun b=>Fb' b∨b=q,⟨?_,fun b hb=>?_⟩,fun b hb=>?_,Fb',fun b=>Iff.rfl,hcn,?_,fun b hb=>by simp;exact g2 b hb,kp _ _ _ _ hp hcn g3,World.putObj_heap_same hz3⟩
    ·have t3:Turn Fi W2 W3:=g1.1.mono fun b hb=>(e1 b).2 (.inl hb)
     exact (ht2.trans t3).trans (zAg W3 _ ((e1 _).2 (.inr rfl)))
    ·rcases hb with hb | rfl
     ·rcases g1.2 b hb with h | h
      ·exact .inl ((e1 b).2 (.inl h))
      ·exact .inr (by omega)
     ·exact .inl ((e1 _).2 (.inr rfl))
    ·rcases hb with hb | rfl
     ·simp;exact g2 b hb
     ·simp;exact hz3
    ·have s1:Grows F0 Fb w W2:=by
      rw [hW2];exact ⟨⟨e3.1.os,e3.1.tape,e3.1.output,by simp;exact e3.1.size,fun b hb hf=>(World.putObj_heap_other (by omega)).trans (e3.1.block b hb hf)⟩,e3.2⟩
     have s2:=s1.trans g1
     exact ⟨⟨s2.1.os,s2.1.tape,s2.1.output,by simp;exact s2.1.size,fun b hb hf=>(World.putObj_heap_other (by omega)).trans (s2.1.block b hb hf)⟩,s2.2⟩
   rintro e a3 W3 hp;cases e with
   | normal =>
    obtain ⟨hr,hl4⟩:=fin _ none W3 (hI _) hp
    exact ⟨_,_,hr,.inl ⟨rfl,hl4⟩⟩
   | ret =>
    obtain ⟨hr,Fp',h1,h2,h3⟩:=fin _ (some .ret) W3 (hIx _) hp
    exact ⟨_,_,hr,.inr ⟨rfl,Fp',h1,h2,_,h3⟩⟩
   | exit id =>
    obtain ⟨hr,Fp',h1,h2,h3⟩:=fin _ (some (.exit id)) W3 (hIx _) hp
    exact ⟨_,_,hr,.inr ⟨rfl,Fp',h1,h2,_,h3⟩⟩
   | goto t =>
    obtain ⟨hr,Fp',h1,h2,h3⟩:=fin _ (some (.goto t)) W3 (hIx _) hp
    exact ⟨_,_,hr,.inr ⟨rfl,Fp',h1,h2,_,h3⟩⟩
   | panic ch=>exact hp.elim
   | outgrown=>exact hp.elim
  ·have out:∀ (p:(Nat→Prop)→World→Prop) st pe Fi (W2:World) (o:Obj),(∀ F,StabF w.heap.size F (p F))→Z p st pe Fi W2→Left F0 w p (W2.putObj q o):=by
    rintro p st pe Fi W2 o hp ⟨Fb,e1,e2,e3,e4,e5,e6⟩;exact ⟨Fb,⟨⟨e3.1.os,e3.1.tape,e3.1.output,by simp;exact e3.1.size,fun b hb hf=>(World.putObj_heap_other (by omega)).trans (e3.1.block b hb hf)⟩,e3.2⟩,fun b hb=>by simp;exact e4 b hb,hp Fb W2 _ e5 (zAg W2 o ⟨by omega,fun h=>e2 _ h rfl⟩)⟩
   rintro e W2 ⟨⟨v,rfl⟩,(⟨Fi,_,_,hz⟩ | ⟨Fi,_,_,c,hz⟩)⟩
   ·have hl:=hz
    obtain ⟨_,_,_,_,_,_,hl⟩:=hl
    have o1:=out _ _ _ _ _ (.loop { rec .ready none with state:=.exhausted }) (hI _) hz
    exact ⟨none,_,by have:=run_endLoop (P:=P) hl (by rw [hrec];simp);rw [hrec] at this;exact this,hdone _ (by rw [hrec] at o1;exact o1)⟩
   ·have hl:=hz
    obtain ⟨_,_,_,_,_,_,hl⟩:=hl
    have o1:=out _ _ _ _ _ (.loop { rec .done (some c) with state:=.exhausted }) (hIx c) hz
    exact ⟨some c,_,by have:=run_endLoop (P:=P) hl (by rw [hrec];simp);rw [hrec] at this;exact this,hstop c _ (by rw [hrec] at o1;exact o1)⟩
end
section
open Go.RowKit Go.Shelf
attribute [local go_sem] zJl zD9 zJm zB8 zJI zDt zJJ zB3 zB4 zB5 zB6
def encI (x:Int):Array Value:=#[.int .i64 x]
section
variable {M:Nat→Prop} {t:Nat} {f:Fo} {next:Int} {w w':World}
theorem TreeM.keep (h:TreeM M t f next w) (hk:∀ b,M b→w'.heap[b]? = w.heap[b]?) (hs:w.heap.size≤w'.heap.size):TreeM M t f next w':=by
 obtain ⟨mb,y,h1,h2,h3,h4⟩:=h
 exact ⟨mb,y,h1.keep fun b hb=>hk b (h3 b hb),h2,h3,fun b hb=>Nat.lt_of_lt_of_le (h4 b hb) hs⟩
theorem zL4 (h:TreeM M t f next w) {x y:Int} {k:Nat} (hx:x∈0 :: f.ids) (hk:(kidsW f x)[k]? = some y) :
  Calls Tryz.prog 111 #[.agg #[treeI t],.int .i64 x,.int .i64 (k:Int)] w fun e w'=>e=.returned (.int .i64 y)∧Below w.heap.size w w':=by
 unfold treeI;obtain ⟨W1,hW1⟩:∃ W1,Hid (W1=w.alloc (.cells #[.iface 24 (.pointer (some ⟨t,0,none⟩))] 82)):=⟨_,rfl⟩
 have hb1:Below w.heap.size w W1:=by rw [hW1.out];exact (Below.refl _ w).alloc (Nat.le_refl _) _
 have HX1:Hid (W1.heap[w.heap.size]? = some (.cells #[.iface 24 (.pointer (some ⟨t,0,none⟩))] 82 (0,0))):=by show _=_;rw [hW1.out];exact heap_alloc_new w _
 have HB1:=Lib.hid hb1
 have HT1:=Lib.hid (h.below hb1)
 have x0:W1.cell? ⟨w.heap.size,0,none⟩=some (.iface 24 (.pointer (some ⟨t,0,none⟩))):=zAA HX1.out 0 _ rfl
 have HI:=Lib.hid h.inv
 clear h hb1;rcases List.mem_cons.1 hx with rfl | hx
 ·have hy:Hid (rootF f=y):=by
   show _=_
   unfold kidsW at hk;rw [zBU (zDx f)] at hk;cases hf:f with
   | nil=>rw [hf] at hk;simp [Fo.roots] at hk
   | cons id d ks r =>
    obtain ⟨hr,_⟩:=HI.out.one id d ks r hf
    rw [hf,hr] at hk;cases k with
    | zero=>simpa [Fo.roots,rootF] using hk
    | succ k=>simp [Fo.roots] at hk
  clear hk hx
  go_enter Tryz.func111,Tryz.ntmps111
  go_upto_region 1 with (fail)
  rw [← hW1.out]
  go_wp2_with fail;refine (zG1 HT1.out).mono ?_
  rintro e w2 ⟨rfl,rfl⟩;rw [hy.out]
  go_wp2_with fail
  go_ret;exact ⟨rfl,HB1.out⟩
 ·obtain ⟨hx0,hx1⟩:=zGE HI.out hx
  have hxb:(x == 0)=false:=by simpa using hx0
  have HX:=Lib.hid hx1
  have HK:Hid ((entW f x).kids[k]? = some y):=hk
  clear hk hx hx0 hx1
  go_enter Tryz.func111,Tryz.ntmps111
  go_upto_region 1 with (fail)
  rw [← hW1.out]
  go_wp2_with fail;refine (zMS HT1.out HX.out k y HK.out).mono ?_
  rintro e w2 ⟨rfl,rfl⟩
  go_wp2_with fail
  go_ret;exact ⟨rfl,HB1.out⟩
def closV (g bw bi:Nat):Value:=.func (.func g) #[] #[.pointer (some ⟨bw,0,none⟩),.pointer (some ⟨bi,0,none⟩)]
def caps (t:Nat) (x:Int) (w:World):World:=(w.alloc (.cells #[treeI t] 82)).alloc (.cells #[.int .i64 x] 3)
theorem zAq (t:Nat) (x:Int) (w:World):Below w.heap.size w (caps t x w):=((Below.refl _ w).alloc (Nat.le_refl _) _).alloc (by simp) _
theorem zCq (t:Nat) (x:Int) (w:World):(caps t x w).heap[w.heap.size]? = some (.cells #[treeI t] 82 (0,0)):=(Below.heap_alloc _ _ _ (by simp)).trans (heap_alloc_new w _)
theorem zCp (t:Nat) (x:Int) (w:World):(caps t x w).heap[w.heap.size+1]? = some (.cells #[.int .i64 x] 3 (0,0)):=by
 have:=heap_alloc_new (w.alloc (.cells #[treeI t] 82)) (.cells #[.int .i64 x] 3)
 simpa [caps] using this
theorem zAu (t:Nat) (x:Int) (w:World):(caps t x w).heap.size=w.heap.size+2:=by simp [caps]
theorem zCJ (w:World) (t:Nat) (x:Int):Calls Tryz.prog 81 #[.agg #[treeI t],.int .i64 x] w fun e w'=>e=.returned (closV 110 w.heap.size (w.heap.size+1))∧w'=caps t x w:=by
 unfold treeI
 go_enter Tryz.func81,Tryz.ntmps81
 go_wp2_with fail
 go_ret;exact ⟨rfl,rfl⟩
theorem zB2 (w:World) (t:Nat) (x:Int):Calls Tryz.prog 82 #[.agg #[treeI t],.int .i64 x] w fun e w'=>e=.returned (closV 112 w.heap.size (w.heap.size+1))∧w'=caps t x w:=by
 unfold treeI
 go_enter Tryz.func82,Tryz.ntmps82
 go_wp2_with fail
 go_ret;exact ⟨rfl,rfl⟩
theorem zCv {x:Int} (hx:x∈0 :: f.ids) (w:World) (bw bi:Nat) (ht:TreeM M t f next w) (h1:w.heap[bw]? = some (.cells #[treeI t] 82 (0,0))) (h2:w.heap[bi]? = some (.cells #[.int .i64 x] 3 (0,0))) :
  IterG Tryz.prog 110 #[.pointer (some ⟨bw,0,none⟩),.pointer (some ⟨bi,0,none⟩)] encI (kidsW f x) (fun b=>M b∨b=bw∨b=bi) w:=by
 unfold treeI at h1;intro n0 l J Jx W Fp0 hD hsz hC hJ hJx hY h0;have HC:=Lib.hid hC
 have HY:=Lib.hid hY
 have HJ:=Lib.hid hJ
 have HJX:=Lib.hid hJx
 have HJ0:=Lib.hid h0
 have HX:=Lib.hid hx
 have htW:TreeM M t f next W:=ht.keep (fun b hb=>(hD b (.inl hb)).2) hsz
 have g1:=(hD bw (.inr (.inl rfl))).2.trans h1
 have g2:=(hD bi (.inr (.inr rfl))).2.trans h2
 have HT:=Lib.hid htW
 have HG1:=Lib.hid g1
 have HG2:=Lib.hid g2
 have hkl:(kidsW f x).length≤1001:=by have:=zB7 htW.inv hx;have:=htW.inv.cnt;omega
 obtain ⟨m,hm⟩:∃ m,Hid ((kidsW f x).length=m):=⟨_,rfl⟩
 rw [hm.out] at hkl;clear hD hsz hC hY hJ hJx h0 ht h1 h2 htW g1 g2 hx;have f1:=zAA HG1.out 0 _ rfl
 have f2:=zAA HG2.out 0 _ rfl
 refine callsIn_of_wp_marks Tryz.func110 rfl trivial ?_ rfl
 simp only [Tryz.ntmps110,List.size_toArray,List.length_cons,List.length_nil,Nat.reduceAdd,Nat.reduceSub,Array.replicate_succ,Array.replicate_zero,List.push_toArray,List.append_toArray,List.nil_append,List.cons_append]
 gi_wp2
 refine ⟨trivial,fun h=>(by cases h),?_⟩
 refine (callsIn_wide.2 (zCL HT.out HX.out)).mono ?_
 rintro e w2 ⟨A,c,rfl,_,hb2⟩;have HB2:=Lib.hid hb2
 have HJ2:Hid (J 0 Fp0 w2):=HJ.out 0 Fp0 W w2 HJ0.out (Keep.of_below hb2)
 have hkm:Hid ((entW f x).kids.length=m):=hm.out
 clear hb2 f1 f2;unfold nodeV nodeR strV;rw [hkm.out];have hm0:(m:Int)≤1001:=by omega
 gi_wp2
 refine wpIn_loop (fun a wr=>∃ (j:Nat) (Fp:Nat→Prop) (u3 u4 u5 u6 u7 u10 u11 u12 u13 u14 u15 u16 u17 u18 u19:Value),a={ tmps:=#[Value.func (Fn.yield l) #[] #[],Value.pointer (some ⟨bw,0,none⟩),Value.pointer (some ⟨bi,0,none⟩),u3,u4,u5,u6,u7,Value.int .i64 m,Value.int .i64 (j:Int),u10,u11,u12,u13,u14,u15,u16,u17,u18,u19],defers:=[] }∧j≤m ∧
   Hid (J j Fp wr)∧Hid (Grows Fp0 Fp W wr)∧Hid (∀ b,Fp b→b<wr.heap.size)) (fun a _=>m-(intOf (a.tmps.getD 9 undef)).toNat) ?start ?round
 case start=>exact ⟨0,Fp0,_,_,_,_,_,_,_,_,_,_,_,_,_,_,_,rfl,Nat.zero_le _,HJ2.out,Grows.of_below HB2.out,fun b hb=>by have:=(HC.out b hb).1;have:=HB2.out.size;omega⟩
 case round =>
  rintro a wr ⟨j,Fp,u3,u4,u5,u6,u7,u10,u11,u12,u13,u14,u15,u16,u17,u18,u19,rfl,hj,hJj,hGj,hBj⟩;have j0:(0:Int)≤(j:Int):=by omega
  by_cases hlt:j<m
  ·have jm:(j:Int)<(m:Int):=by omega
   obtain ⟨y,hy⟩:∃ y,Hid ((kidsW f x)[j]? = some y):=⟨(kidsW f x)[j]'(by have:=hm.out;omega),List.getElem?_eq_getElem _⟩
   have nD:∀ b,b<W.heap.size→(M b∨b=bw∨b=bi) → ¬ Fp b:=fun b hb hd hf=>by
    rcases hGj.out.2 b hf with h | h
    ·exact (HC.out b h).2 hd
    ·omega
   have ht:TreeM M t f next wr:=HT.out.keep (fun b hb=>hGj.out.1.block b (HT.out.lt hb) fun hf=>(HC.out b hf).2 (.inl hb)) hGj.out.1.size
   have l1:=(Array.getElem?_eq_some_iff.1 HG1.out).1
   have l2:=(Array.getElem?_eq_some_iff.1 HG2.out).1
   have k1:=(hGj.out.1.block bw l1 fun hf=>(HC.out bw hf).2 (.inr (.inl rfl))).trans HG1.out
   have k2:=(hGj.out.1.block bi l2 fun hf=>(HC.out bi hf).2 (.inr (.inr rfl))).trans HG2.out
   have f1:=zAA k1 0 _ rfl
   have f2:=zAA k2 0 _ rfl
   have HTr:=Lib.hid ht
   clear nD ht l1 l2 k1 k2
   gi_wp2
   refine ⟨trivial,fun h=>(by cases h),?_⟩
   refine (callsIn_wide.2 (zL4 HTr.out HX.out hy.out)).mono ?_
   rintro e w3 ⟨rfl,hb3⟩;have hJ3:J j Fp w3:=HJ.out j Fp wr w3 hJj.out (Keep.of_below hb3)
   have hG3:Grows Fp0 Fp W w3:=hGj.out.trans (Grows.of_below hb3)
   obtain ⟨fn,tmps,assign,body,hyy,hR⟩:=HY.out j y Fp w3 hy.out hJ3 hG3.1.size (fun b hb=>by have:=hBj.out b hb;have:=hb3.size;omega)
   have HG3:=Lib.hid hG3
   have HRR:=Lib.hid hR
   dsimp only [encI] at hyy
   clear hb3 hJ3 hG3 hR f1 f2
   gi_wp2
   refine ⟨fun h=>(by cases h),?_⟩
   refine (RoundIn.anyD HRR.out).mono ?_
   rintro e w4 (⟨rfl,Fp4,hG4,hB4,hJ4⟩ | ⟨rfl,Fp4,hG4,hB4,hx4⟩)
   ·have HG4:=Lib.hid (HG3.out.trans hG4)
    have HB4:=Lib.hid hB4
    have HJ4:=Lib.hid hJ4
    clear hG4 hB4 hJ4 hyy
    gi_wp2
    exact ⟨⟨j+1,Fp4,_,_,_,_,_,_,_,_,_,_,_,_,_,_,_,rfl,by omega,HJ4.out,HG4.out,HB4.out⟩,by simp [intOf];omega⟩
   ·have HG4:=Lib.hid (HG3.out.trans hG4)
    have HB4:=Lib.hid hB4
    have HX4:=Lib.hid hx4
    clear hG4 hB4 hx4 hyy
    gi_wp2
    refine zAO [] w4 (by simp) (by simp) (fun w' hw'=>⟨_,results_none rfl _ _ _,⟨_,rfl⟩,.inr ?_⟩)
    exact zAo HG4.out HB4.out (by simp) (by simp) hw' (HJX.out Fp4) HX4.out
  ·have jm:¬ (j:Int)<(m:Int):=by omega
   have hjm:j=m:=by omega
   gi_wp2
   refine zAO [] wr (by simp) (by simp) (fun w' hw'=>⟨_,results_none rfl _ _ _,⟨_,rfl⟩,.inl ?_⟩)
   have hJm:J (kidsW f x).length Fp wr:=by rw [hm.out,← hjm];exact hJj.out
   exact zAo hGj.out hBj.out (by simp) (by simp) hw' (HJ.out _ Fp) hJm
end
end
end Go.Proofs.YtcombcoilpmnkaaGreat

/-
  Texts of this claim, joined (by a program of the claim's author): GKids, GSame, GGiv, GGrA, NormPlain, Clone, GGrB, GGrP, GEnt, GFoE, GForP, GDocP, GRef, GCut, GRem.
-/
import Derived.Test.YtcombcoilpmnkaaGreatWF1
import Derived.Test.YtcombcoilpmnkaaGreatWF3
import Derived.Deep.QuietTactic
import Derived.BigQuiet
import Derived.Test.YtcombcoilpmnkaaGreatWF2
import Derived.Laws.StructEq
import Derived.Deep.Onto
namespace Go.Proofs.YtcombcoilpmnkaaGreat
set_option maxRecDepth 100000
set_option maxHeartbeats 16000000
section
open Go.RowKit Go.Shelf
section
variable {w:World} {t mb:Nat} {y:Lay} {g:Int→Option Ent} {root next:Int} {n:Nat}
def layK (y:Lay) (p:Int) (v:Value):Lay:={ y with att:=fset y.att p (y.att p),kid:=fset y.kid p v }
def layA (y:Lay) (p:Int) (v:Value):Lay:={ y with att:=fset y.att p v,kid:=fset y.kid p (y.kid p) }
theorem TreeAt.set_kids (h:TreeAt w t mb y g root next n) {p:Int} {e:Ent} (he:g p=some e) {w1:World} {v':Value} {l':List Int} (hrow:intRow w1 v' l') (hg:w.grownBy w1 (y.kid p).ownBlock)
  (hf:∀ b,v'.ownBlock=some b→(y.kid p).ownBlock=some b∨w.heap.size≤b) :
  w1.heap[y.nb p]? = some (.cells (nodeC p e (y.att p) (y.kid p)) 97 (0,0)) ∧
  TreeAt (w1.setCell ⟨y.nb p,7,none⟩ v') t mb (layK y p v') (fset g p (some { e with kids:=l' })) root next n ∧
  Grows (Mine t mb y g) (Mine t mb (layK y p v') (fset g p (some { e with kids:=l' }))) w (w1.setCell ⟨y.nb p,7,none⟩ v'):=by
 have hlt:=h.lt (.inr (.inr ⟨p,e,he,.inl rfl⟩))
 have hno:=h.nb_not he p e he
 have hnd:w1.heap[y.nb p]? = some (.cells (nodeC p e (y.att p) (y.kid p)) 97 (0,0)):=(hg.block _ hlt (fun h=>hno.2 h.symm)).trans (h.node p e he)
 have hat:attRow w1 (y.att p) e.d.attrs:=zAC (h.att p e he) fun b hb=>hg.block b (zAJ (h.att p e he) hb) (fun h'=>h.rows_not p e p e he he b hb h'.symm)
 have hnv:v'.ownBlock≠some (y.nb p):=zAT hrow hnd (fun cur hc=>by injection hc with _ hc;revert hc;decide)
 have hso:∀ b,b≠y.nb p→(w1.setCell ⟨y.nb p,7,none⟩ v').heap[b]? = w1.heap[b]?:=fun b hne=>Below.heap_setCell _ _ _ _ hne
 obtain ⟨q1,q2⟩:=h.turn_node he { e with kids:=l' } (y.att p) v' (w':=w1.setCell ⟨y.nb p,7,none⟩ v')
  (fun b hb hne _ hk=>(hso b hne).trans (hg.block b hb (fun h'=>hk h'.symm))) (by rw [zIa hnd];rfl)
  (zAC hat fun b hb=>hso b (fun e'=>hno.1 (by rw [hb,e']))) (zAC hrow fun b hb=>hso b (fun e'=>hnv (by rw [hb,e']))) (fun b hb=>.inl hb) hf
 refine ⟨hnd,q1,⟨hg.os,hg.tape,hg.output,by simp;exact hg.size,fun b hb hm=>?_⟩,q2⟩
 rw [hso b (fun e'=>hm (.inr (.inr ⟨p,e,he,.inl e'⟩)))]
 exact hg.block b hb (fun h'=>hm (.inr (.inr ⟨p,e,he,.inr (.inr h'.symm)⟩)))
theorem zIw (v:Value) (l:List Int) (w:World) (hrow:intRow w v l) (hn:l.length≤1000000) (k:Nat) (x:Int) (hx:l[k]? = some x) (hmin:∀ j,j<k→l[j]? ≠ some x) :
  Calls Tryz.prog 70 #[v,.int .i64 x] w fun e w'=>e=.returned (.int .i64 (k:Int))∧w=w':=by
 have hkl:k<l.length:=(List.getElem?_eq_some_iff.1 hx).1
 obtain ⟨A,c,hv,_,_,hA0,hA1⟩:=zAR hrow
 unfold intRow at hrow;rw [hv] at hrow;subst hv;cases A with
 | none=>have:=(hA0 rfl).1;omega
 | some ad =>
  obtain ⟨b,rfl,_⟩:=hA1 ad rfl
  have HROW:=Lib.hid hrow
  have HMIN:=Lib.hid hmin
  have HX:=Lib.hid hx
  obtain ⟨m,hm⟩:∃ m,Hid (l.length=m):=⟨_,rfl⟩
  rw [hm.out] at hn hkl;rw [hm.out];clear hrow hmin hx hA0 hA1
  go_enter Tryz.func70,Tryz.ntmps70
  go_wp2_with fail
  go_loop [8] (fun i=>∃ (j:Nat),i=.int .i64 (j:Int)∧j≤k) (fun i=>k+1-(intOf i).toNat)
  case atStart=>exact ⟨0,rfl,Nat.zero_le _⟩
  case round =>
   obtain ⟨j,rfl,hjk⟩:=hrel
   obtain ⟨z,hz⟩:∃ z,l[j]? = some z:=⟨l[j]'(by rw [hm.out];omega),List.getElem?_eq_getElem (by rw [hm.out];omega)⟩
   have cx:=zAd HROW.out j (.int .i64 z) (by rw [List.getElem?_map,hz];rfl)
   have j0:(0:Int)≤(j:Int):=by omega
   have j1:(j:Int)<(m:Int):=by omega
   by_cases hjx:j=k
   ·subst hjx
    have hzx:z=x:=by rw [HX.out] at hz;injection hz with hz;exact hz.symm
    subst hzx;clear hz
    go_wp2_with fail
    go_ret;exact ⟨rfl,rfl⟩
   ·have hzx:(x == z)=false:=by
     have:=HMIN.out j (by omega)
     rw [hz] at this;simp only [beq_eq_false_iff_ne];intro e;exact this (by rw [e])
    clear hz
    go_wp2_with fail
    go_round
    case rel=>exact ⟨j+1,by go_num,by omega⟩
    case measure=>simp [intOf];omega
end
end
section
open Go.RowKit Go.Shelf
theorem zCV (v1 v2:Value) (l1 l2:List Int) (w:World) (h1:intRow w v1 l1) (h2:intRow w v2 l2) (r:Bool) (hr:Hid (decide (l1=l2)=r)) :
  Calls Tryz.prog 15 #[v1,v2] w (Ret w (.bool r)):=by
 obtain ⟨A1,c1,rfl,hc1,hm1,hn1,hs1⟩:=zAR h1
 obtain ⟨A2,c2,rfl,hc2,hm2,hn2,hs2⟩:=zAR h2
 have hb1:l1.length≤9223372036854775807:=by unfold maxLen at hm1;omega
 have hb2:l2.length≤9223372036854775807:=by unfold maxLen at hm2;omega
 have H1:=Lib.hid h1
 have H2:=Lib.hid h2
 have HS1:=Lib.hid hs1
 have HS2:=Lib.hid hs2
 have HN1:=Lib.hid hn1
 have HN2:=Lib.hid hn2
 clear h1 h2 hs1 hs2 hn1 hn2 hc1 hc2 hm1 hm2;have hi1:(l1.length:Int)≤9223372036854775807:=by omega
 have hi2:(l2.length:Int)≤9223372036854775807:=by omega
 by_cases hlen:l1.length=l2.length
 ·have hl:((l1.length:Int) != (l2.length:Int))=false:=by simp [hlen]
  have hl':(l1.length != l2.length)=false:=by simp [hlen]
  obtain ⟨n,hn⟩:∃ n,Hid (l2.length=n):=⟨_,rfl⟩
  have hn1:Hid (l1.length=n):=by show _=_;rw [← hn.out];exact hlen
  rw [hn.out,hn1.out] at hl hl';rw [hn1.out] at hi1;rw [hn.out,hn1.out];clear hlen hb1 hb2 hi2
  go_enter Tryz.func15,Tryz.ntmps15
  go_wp2_with fail
  go_loopw [5] (fun i wr=>∃ (k:Nat),k≤n∧i=.int .i64 k∧Hid (l1.take k=l2.take k)∧Below w.heap.size w wr) (fun i _=>n-(intOf i).toNat)
  case atStart=>exact ⟨0,Nat.zero_le _,rfl,rfl,Below.refl _ _⟩
  case round =>
   obtain ⟨k,hk,rfl,htk,hbel⟩:=hrel
   have hzr:=hbel.size
   by_cases hlt:k<n
   ·obtain ⟨x1,hx1⟩:∃ x,Hid (l1[k]? = some x):=⟨l1[k]'(by have:=hn1.out;omega),List.getElem?_eq_getElem _⟩
    obtain ⟨x2,hx2⟩:∃ x,Hid (l2[k]? = some x):=⟨l2[k]'(by have:=hn.out;omega),List.getElem?_eq_getElem _⟩
    have hR1:intRow wr (.slice A1 l1.length c1) l1:=zAC H1.out fun b hb=>hbel.block b (zAJ H1.out hb)
    have hR2:intRow wr (.slice A2 l2.length c2) l2:=zAC H2.out fun b hb=>hbel.block b (zAJ H2.out hb)
    cases A1 with
    | none=>exfalso;have:=(HN1.out rfl).1;have:=hn1.out;omega
    | some a1 =>
     cases A2 with
     | none=>exfalso;have:=(HN2.out rfl).1;have:=hn.out;omega
     | some a2 =>
      obtain ⟨b1,rfl,_⟩:=HS1.out a1 rfl
      obtain ⟨b2,rfl,_⟩:=HS2.out a2 rfl
      have e1:=zAd hR1 k (.int .i64 x1) (by rw [List.getElem?_map,hx1.out];rfl)
      have e2:=zAd hR2 k (.int .i64 x2) (by rw [List.getElem?_map,hx2.out];rfl)
      have i0:(0:Int)≤(k:Int):=by omega
      have i1:(k:Int)<n:=by omega
      clear hR1 hR2;by_cases hxx:x1=x2
      ·have hd:(x1 != x2)=false:=by simp [hxx]
       have HXX:=Lib.hid hxx
       clear hxx
       go_wp2_with fail
       go_quiet (fail)
       go_wp2_with fail
       go_roundw
       case rel =>
        refine ⟨k+1,by omega,by go_num,?_,hbel.trans ⟨rfl,rfl,rfl,Nat.le_refl _,fun _ _=>rfl⟩⟩
        show _=_
        rw [List.take_add_one,List.take_add_one,htk.out,hx1.out,hx2.out,HXX.out]
       case measure=>simp [intOf];omega
      ·have hd:(x1 != x2)=true:=by simpa using hxx
       have hr':Hid (r=false):=by
        show _=_
        rw [← hr.out];refine decide_eq_false fun h=>hxx ?_
        have:=hx1.out
        rw [h,hx2.out] at this
        injection this with this
        exact this.symm
       clear hxx
       go_wp2_with fail
       go_quiet (fail)
       go_wp2_with fail
       go_ret;exact ⟨by rw [hr'.out];rfl,hbel.trans ⟨rfl,rfl,rfl,Nat.le_refl _,fun _ _=>rfl⟩⟩
   ·have hlt':¬ (k:Int)<n:=by omega
    have hr':Hid (r=true):=by
     show _=_
     rw [← hr.out];refine decide_eq_true ?_
     have:=htk.out
     rw [List.take_of_length_le (by have:=hn1.out;omega),List.take_of_length_le (by have:=hn.out;omega)] at this
     exact this
    go_wp2_with fail
    go_ret;exact ⟨by rw [hr'.out];rfl,hbel⟩
 ·have hl:((l1.length:Int) != (l2.length:Int))=true:=by simp;omega
  have hl':(l1.length != l2.length)=true:=by simp;omega
  have hr':Hid (r=false):=by
   show _=_
   rw [← hr.out];exact decide_eq_false fun h=>hlen (by rw [h])
  clear hlen
  go_enter Tryz.func15,Tryz.ntmps15
  go_wp2_with fail
  go_ret;exact ⟨by rw [hr'.out];rfl,Below.refl _ _⟩
end
section
open Go.RowKit Go.Shelf
theorem zAK {P:Program} (w:World) {ops:Array Oper} {rest:List Oper} {o:Oper} {a:Act} {Q:Exit→Act→World→Prop}
  (hg:o.guard=none) (s x:Operand) (t:TypeId) (hop:o.op=Op.call { callee:=Callee.builtin Builtin.append,args:=#[s,x],argTypes:=#[t,t] })
  (v u:Value) (hs:a.eval s=v) (hx:a.eval x=u) {v':Value} {w':World} (hr:(Builtin.append_ #[t,t] o.type #[v,u]).run P w=.ok v' w') (hK:wpList P ops Q rest (a.put o.dst v') w') :
  wpList P ops Q (o :: rest) a w:=by
 refine wpList_plain hg fun _ hK'=>?_
 unfold Oper.wp execOp;simp only [hop,resolve,invoke,builtin,Sem.run_bind,Sem.run_pure,Result.andThen_ok,List.map_toArray,List.map_cons,List.map_nil,hs,hx,hr];exact hK' _ _ hK
def idsFrom (next:Int) (m:Nat):List Int:=(List.range m).map fun (i:Nat)=>next+(i:Int)
theorem zGJ (next:Int) (m:Nat):idsFrom next (m+1)=idsFrom next m++[next+(m:Int)]:=by simp [idsFrom,List.range_succ]
theorem zAr (next:Int) (m:Nat):(idsFrom next m).length=m:=by simp [idsFrom]
section
variable {w:World} {t mb:Nat} {y:Lay} {g:Int→Option Ent} {root next:Int} {n:Nat}
theorem zAk {W:World} {v:Value} {l:List Int} (hrow:intRow W v l) (hl:l.length≤1000000) (x:Int) :
  ∃ pa pn pc w',(Builtin.append_ #[32,32] 32 #[v,.slice (some ⟨W.heap.size,0,none⟩) 1 1]).run Tryz.prog (W.alloc (.cells #[.int .i64 x] 3))=.ok (.slice pa pn pc) w'∧pn=l.length+1 ∧
   intRow w' (.slice pa pn pc) (l++[x])∧W.grownBy w' v.ownBlock∧(∀ b,(Value.slice pa pn pc).ownBlock=some b→v.ownBlock=some b∨W.heap.size≤b):=by
 obtain ⟨Wa,hWa⟩:∃ Wa,Wa=W.alloc (.cells #[.int .i64 x] 3):=⟨_,rfl⟩
 have hba:Below W.heap.size W Wa:=by rw [hWa];exact (Below.refl _ W).alloc (Nat.le_refl _) _
 have hXa:Wa.heap[W.heap.size]? = some (.cells #[.int .i64 x] 3 (0,0)):=by rw [hWa];exact heap_alloc_new W _
 have hrowa:intRow Wa v l:=zAC hrow fun b hb=>hba.block b (zAJ hrow hb)
 obtain ⟨v',w',hr,hrow',hg',hf'⟩:=zAy (P:=Tryz.prog) Wa 32 32 3 (.int .i64 0) 1 8 Tryz.underlying32 zBf rfl (by decide) (by decide) v _ _ hrowa ⟨W.heap.size,0,none⟩ 1 1 [.int .i64 x] (by decide) rfl (by
  intro j u0 hj;rw [zAI];cases j with
  | zero=>simp at hj;subst hj;exact zAA hXa 0 _ rfl
  | succ j=>simp at hj) (by intro u hu;simp at hu;subst hu;rfl) (by omega) (by decide)
 obtain ⟨pa,pc,rfl⟩:∃ pa pc,v'=.slice pa (l.length+1) pc:=by
  obtain ⟨A,c,hv,_⟩:=zAR hrow'
  exact ⟨A,c,hv⟩
 rw [hWa] at hr;refine ⟨pa,_,pc,w',hr,rfl,?_,⟨hg'.os.trans hba.os,hg'.tape.trans hba.tape,hg'.output.trans hba.output,Nat.le_trans hba.size hg'.size,fun b hb hne=>(hg'.block b (Nat.lt_of_lt_of_le hb hba.size) hne).trans (hba.block b hb)⟩,fun b hb=>?_⟩
 ·show w'.ownsRow 0 3 1 _ (l++[x]).length ((l++[x]).map (Value.int .i64))
  rw [List.length_append,List.map_append];exact hrow'
 ·rcases hf' b hb with h | h
  ·exact .inl h
  ·have:=hba.size;exact .inr (by omega)
theorem zJZ (h:TreeAt w t mb y g root next n) (m:Nat) (hm:m≤100000) (hn0:0≤next) (hn1:next≤4294967296) :
  Calls Tryz.prog 45 #[.pointer (some ⟨t,0,none⟩),.int .i64 m] w fun e w'=>∃ A c,e=.returned (.slice A m c)∧intRow w' (.slice A m c) (idsFrom next m)∧(∀ b,(Value.slice A m c).ownBlock=some b→w.heap.size≤b) ∧
   TreeAt w' t mb y g root (next+(m:Int)) n∧Turn (fun b=>b=t) w w':=by
 have HH:=Lib.hid h
 clear h
 go_enter Tryz.func45,Tryz.ntmps45
 go_wp2_with fail
 go_loopw [5,7] (fun s i wr=>∃ (j:Nat) (A:Option Addr) (c:Nat),s=.slice A j c∧i=.int .i64 (j:Int)∧j≤m∧Hid (intRow wr (.slice A j c) (idsFrom next j))∧Hid (∀ b,(Value.slice A j c).ownBlock=some b→w.heap.size≤b) ∧
  Hid (TreeAt wr t mb y g root (next+(j:Int)) n)∧Hid (Turn (fun b=>b=t) w wr)) (fun _ i _=>m-(intOf i).toNat)
 case atStart=>exact ⟨0,none,0,rfl,rfl,Nat.zero_le _,⟨by simp [idsFrom],.inl ⟨rfl,rfl⟩⟩,fun b hb=>by simp [Value.ownBlock] at hb,by show TreeAt _ _ _ _ _ _ _ _;simpa using HH.out,Turn.refl _ _⟩
 case round =>
  obtain ⟨j,A,c,rfl,rfl,hj,hrow,hfr,ht,htu⟩:=hrel
  have j0:(0:Int)≤(j:Int):=by omega
  by_cases hjm:j<m
  ·have hjm':(j:Int)<(m:Int):=by omega
   have c2:=ht.out.c2
   obtain ⟨N,hN⟩:∃ N,Hid (next+(j:Int)=N):=⟨_,rfl⟩
   rw [hN.out] at c2;have hNb:0≤N∧N≤5000000000:=by rw [← hN.out];omega
   obtain ⟨hNb0,hNb1⟩:=hNb
   obtain ⟨pa,pn,pc,w2,hr,hpn,hrow2,hg2,hf2⟩:=zAk hrow.out (by rw [zAr];omega) N
   rw [zAr] at hpn;subst hpn;have hlow:∀ b,Mine t mb y g b→(Value.slice A j c).ownBlock≠some b:=fun b hb h'=>by
    have:=hfr.out b h'
    have:=HH.out.lt hb
    omega
   have ht2:TreeAt w2 t mb y g root (next+(j:Int)) n:=ht.out.keep fun b hb=>hg2.block b (ht.out.lt hb) (fun h'=>hlow b hb h'.symm)
   have c22:=ht2.c2
   rw [hN.out] at c22;have f22:=zAV ht2.tree 2
   have hszr:w.heap.size≤wr.heap.size:=htu.out.size
   have hrow3:intRow (w2.setCell ⟨t,2,none⟩ (.int .i64 (N+1))) (.slice pa (j+1) pc) (idsFrom next (j+1)):=by
    rw [zGJ,hN.out];refine zAC hrow2 fun b hb=>Below.heap_setCell _ _ _ _ (fun e'=>?_)
    have htl:=HH.out.lt (.inl rfl:Mine t mb y g t)
    rcases hf2 b hb with h' | h'
    ·exact hlow t (.inl rfl) (by rw [h',e'])
    ·have e2:b=t:=e';omega
   have hfr3:∀ b,(Value.slice pa (j+1) pc).ownBlock=some b→w.heap.size≤b:=fun b hb=>by
    rcases hf2 b hb with h' | h'
    ·exact hfr.out b h'
    ·omega
   have ht3:TreeAt (w2.setCell ⟨t,2,none⟩ (.int .i64 (N+1))) t mb y g root (next+((j+1:Nat):Int)) n:=by
    have:=ht2.set_next (N+1)
    rw [show next+((j+1:Nat):Int)=N+1 by rw [← hN.out];omega]
    exact this
   have htu3:Turn (fun b=>b=t) w (w2.setCell ⟨t,2,none⟩ (.int .i64 (N+1))):=by
    refine ⟨hg2.os.trans htu.out.os,hg2.tape.trans htu.out.tape,hg2.output.trans htu.out.output,by simp;exact Nat.le_trans htu.out.size hg2.size,fun b hb hne=>?_⟩
    rw [Below.heap_setCell _ _ _ _ hne];exact (hg2.block b (Nat.lt_of_lt_of_le hb htu.out.size) (fun h'=>by have:=hfr.out b h'.symm;omega)).trans (htu.out.block b hb hne)
   have HR3:=Lib.hid hrow3
   have HF3:=Lib.hid hfr3
   have HT3:=Lib.hid ht3
   have HU3:=Lib.hid htu3
   clear hrow hfr ht htu hrow2 hg2 hf2 hlow ht2 hrow3 hfr3 ht3 htu3
   go_wp2_with (at_builtin;refine zAK _ rfl _ _ 32 rfl (.slice A j c) (.slice (some ⟨wr.heap.size,0,none⟩) 1 1) (by simp [Act.eval]) (by simp [Act.eval]) hr ?_)
   go_roundw
   case rel=>exact ⟨j+1,pa,pc,rfl,by go_num,by omega,HR3,HF3,HT3,HU3⟩
   case measure=>simp [intOf];omega
  ·have hjm':j=m:=by omega
   subst hjm'
   go_wp2_with fail
   go_ret;exact ⟨A,c,rfl,hrow.out,hfr.out,ht.out,htu.out⟩
end
end
section
open Go.RowKit Go.Shelf
theorem zEe {W:World} {b n c:Nat} {l:List Int} (hrow:intRow W (.slice (some ⟨b,0,none⟩) n c) l) (k:Nat) (hk:k≤l.length) (hl:l.length≤1000000) (x:Int) :
  ∃ q pc w',(Builtin.append_ #[32,32] 32 #[.slice (some ⟨b,0,none⟩) k k,.slice (some ⟨W.heap.size,0,none⟩) 1 1]).run Tryz.prog (W.alloc (.cells #[.int .i64 x] 3))=.ok (.slice (some ⟨q,0,none⟩) (k+1) pc) w' ∧
   W.heap.size≤q∧intRow w' (.slice (some ⟨q,0,none⟩) (k+1) pc) (l.take k++[x])∧Below W.heap.size W w':=by
 obtain ⟨i0,hi0,hz0,hz1,hz2⟩:=info_parts zBf
 obtain ⟨Wa,hWa⟩:∃ Wa,Wa=W.alloc (.cells #[.int .i64 x] 3):=⟨_,rfl⟩
 have hba:Below W.heap.size W Wa:=by rw [hWa];exact (Below.refl _ W).alloc (Nat.le_refl _) _
 have hXa:Wa.heap[W.heap.size]? = some (.cells #[.int .i64 x] 3 (0,0)):=by rw [hWa];exact heap_alloc_new W _
 have hza:Wa.heap.size=W.heap.size+1:=by rw [hWa];simp
 have hrowa:intRow Wa (.slice (some ⟨b,0,none⟩) n c) l:=zAC hrow fun b hb=>hba.block b (zAJ hrow hb)
 have hge:=grownCap_ge Wa (k+1) k 3
 have hcm:grownCap Wa (k+1) k 3≤maxLen:=grownCap_le_maxLen Wa (k+1) k 3 (by unfold maxLen;omega)
 have hr:=run_append_grow (P:=Tryz.prog) Wa 32 32 3 i0 _ Tryz.underlying32 hi0 hz0 ⟨b,0,none⟩ k k ((l.take k).map (Value.int .i64)) (by rw [hz1];simp;omega) (by
   intro j v hj;refine hrowa.cells (g:=b) rfl j v ?_
   rw [List.getElem?_map] at hj ⊢;rw [List.getElem?_take] at hj
   split at hj
   ·exact hj
   ·cases hj) ⟨W.heap.size,0,none⟩ 1 1 [.int .i64 x] (by rw [hz1];rfl) (by
   intro j u0 hj;rw [zAI];cases j with
   | zero=>simp at hj;subst hj;exact zAA hXa 0 _ rfl
   | succ j=>simp at hj) (by omega) (by omega) (by rw [hz2];exact growslice_fits (by omega) (by omega))
 rw [hWa] at hr;rw [← hWa] at hr;refine ⟨_,_,_,by rw [← hWa];exact hr,by omega,?_,?_⟩
 ·show World.ownsRow _ 0 3 1 _ (l.take k++[x]).length ((l.take k++[x]).map (Value.int .i64))
  have hlen:(l.take k++[x]).length=k+1:=by simp;omega
  rw [hlen];refine ⟨by simp;omega,.inr ⟨_,_,_,rfl,Nat.zero_le _,heap_alloc_new Wa.drew _,hge,hcm,?_,?_⟩⟩
  ·have hzc:(Value.int .i64 0).cells.size=1:=rfl
   simp only [Array.size_append,List.size_toArray,size_zeroCells,hzc,List.length_map,List.length_take,List.length_cons,List.length_nil];omega
  ·simp only [Array.toList_append,List.append_assoc]
   rw [← List.append_assoc,List.map_append];have h2:((l.take k).map (Value.int .i64)++[Value.int .i64 x]).length=(k+1) * 1:=by simp;omega
   rw [← h2];exact List.take_left
 ·refine ⟨hba.os,hba.tape,hba.output,by simp;omega,fun j hj=>?_⟩
  exact (((Below.refl _ Wa.drew).alloc (Nat.le_refl _) _).block j (by show j<Wa.heap.size;omega)).trans (hba.block j hj)
end
section
def nstep (out:List ItemD) (x:ItemD):List ItemD :=
 if x.kind=2∧x.text=[] then out
 else match out[out.length-1]? with
  | none=>out++[x]
  | some p=>if x.kind=2∧p.kind=2∧p.level=x.level then out.set (out.length-1) { p with text:=p.text++x.text } else out++[x]
def normalL (l:List ItemD):List ItemD:=l.foldl nstep []
theorem zId {out:List ItemD} {x:ItemD} (h1:x.kind=2) (h2:x.text=[]):nstep out x=out:=by unfold nstep;rw [if_pos ⟨h1,h2⟩]
theorem zHG {x:ItemD} (h:¬ (x.kind=2∧x.text=[])):nstep [] x=[x]:=by unfold nstep;rw [if_neg h];rfl
theorem zIb {out:List ItemD} {x p:ItemD} (hp:out[out.length-1]? = some p) (h1:x.kind=2) (h2:x.text≠[]) (h3:p.kind=2) (h4:p.level=x.level):nstep out x=out.set (out.length-1) { p with text:=p.text++x.text }:=by
 unfold nstep;rw [if_neg (fun h=>h2 h.2),hp];exact if_pos ⟨h1,h3,h4⟩
theorem zIc {out:List ItemD} {x p:ItemD} (hp:out[out.length-1]? = some p) (h:¬ (x.kind=2∧x.text=[])) (h':¬ (x.kind=2∧p.kind=2∧p.level=x.level)):nstep out x=out++[x]:=by
 unfold nstep;rw [if_neg h,hp];exact if_neg h'
def textSum (l:List ItemD):Nat:=(l.map (·.text.length)).sum
def SmallDoc (l:List ItemD):Prop:=SmallItems l∧textSum l≤1000000000
end
section
open Go.RowKit
theorem zFv (l:List AttrD) (A:Option Addr) (c:Nat) (w:World) (hA:AttrsAt w w.heap.size A l) (hl:l.length≤1000000000) :
  Calls Tryz.prog 41 #[.slice A l.length c] w (ClonePost w l):=by
 have keql:=fun (w':World)=>Lib.run_eql_slice_nil (P:=Tryz.prog) w' 47 77 A l.length c 0 0 Tryz.underlying47
 cases A with
 | none =>
  have h0:l.length=0:=by
   rcases Nat.eq_zero_or_pos l.length with h | h
   ·exact h
   ·obtain ⟨_,h,_⟩:=hA h;cases h
  have hnil:=List.eq_nil_of_length_eq_zero h0
  clear hA keql;subst hnil;have keql:=fun (w':World)=>Lib.run_eql_slice_nil (P:=Tryz.prog) w' 47 77 none 0 c 0 0 Tryz.underlying47
  go_enter Tryz.func41,Tryz.ntmps41
  go_wp2_with fail
  go_ret;exact ⟨none,0,rfl,World.ownsRow_nil _ _ _ _,Below.refl _ _⟩
 | some ad =>
  have HF:=Lib.hid hA.flat
  have HB:Hid (0<l.length→ad.block<w.heap.size):=fun h=>by obtain ⟨_,e,hb,_⟩:=hA h;injection e with e;subst e;exact hb
  clear hA
  go_enter Tryz.func41,Tryz.ntmps41
  obtain ⟨i0,hi0,hz0,hz1,hz2⟩:=info_parts zKw
  have hown:(w.alloc (.cells #[] 77)).ownsRow w.heap.size 77 2 (.slice (some ⟨w.heap.size,0,none⟩) 0 0) 0 [] :=
   ⟨by simp,.inr ⟨w.heap.size,0,#[],rfl,Nat.le_refl _,heap_alloc_new w _,Nat.le_refl _,by decide,by simp,by simp⟩⟩
  go_wp2_with (at_builtin;go_loud (refine wpList_append_own _ rfl (.tmp 5) (.tmp 6) 47 rfl w.heap.size 77 i0 (.agg #[.string ByteArray.empty,.string ByteArray.empty]) 2 32 Tryz.underlying47 hi0 hz0 hz1 hz2 rfl (by decide) _ 0 [] rfl hown ad l.length c (l.flatMap cellsA) rfl (zBJ cellsA 2 zAx l) ?c1 (zII l) ?c2 ?c3 (by simp) ?c4))
  case c1 =>
   intro j u hu;have hj:j<l.length * 2:=by rw [← zBJ cellsA 2 zAx l];exact (List.getElem?_eq_some_iff.1 hu).1
   rw [World.cell?_alloc_lt _ _ _ (by rw [zAD];exact HB.out (by omega))]
   exact HF.out j u hu
  case c2=>unfold maxLen;omega
  case c3=>omega
  case c4 =>
   intro v' w' hown' hg _;obtain ⟨A',c',rfl⟩:∃ A' c',v'=.slice A' l.length c':=by
    rcases hown'.2 with ⟨h1,h2⟩ | ⟨g,c,cur,hv,_⟩
    ·exact ⟨none,0,by rw [h2];exact h1⟩
    ·exact ⟨_,c,hv⟩
   have hown':w'.ownsRow w.heap.size 77 2 (.slice A' l.length c') l.length (l.flatMap cellsA):=hown'
   go_wp2_with fail
   go_ret;exact ⟨A',c',rfl,hown',((Below.refl _ w).alloc (Nat.le_refl _) _).grown hg (by simp) (fun k hk=>(hown.lt k hk).1)⟩
end
section
open Go.RowKit Go.Shelf
def Ent.new (par:Int) (x:ItemD):Ent:=⟨par,x.node,[]⟩
def layN (y:Lay) (id:Int) (q:Nat) (a:Value):Lay:={ nb:=fset y.nb id q,att:=fset y.att id a,kid:=fset y.kid id (.slice none 0 0) }
theorem zJq {w w5:World} {t mb:Nat} {y:Lay} {g:Int→Option Ent} {root next:Int} {n:Nat} (h:TreeAt w t mb y g root next n) {id:Int} (hw:wfI id) (hno:g id=none) (hn:n<maxLen) (par:Int) (x:ItemD) {A:Option Addr} {c:Nat}
  (h5:AttrsOwn w5 w.heap.size A c x.attrs) (hb5:Below w.heap.size w w5) :
  ∃ w7,(Instr.mapUpdate 93 (.map (some mb)) (.int .i64 id) (.pointer (some ⟨w5.heap.size,0,none⟩))).run Tryz.prog (w5.alloc (.cells (nodeC id (Ent.new par x) (.slice A x.attrs.length c) (.slice none 0 0)) 97))=.ok () w7 ∧
   TreeAt w7 t mb (layN y id w5.heap.size (.slice A x.attrs.length c)) (fset g id (some (Ent.new par x))) root next (n+1) ∧
   Grows (Mine t mb y g) (Mine t mb (layN y id w5.heap.size (.slice A x.attrs.length c)) (fset g id (some (Ent.new par x)))) w w7:=by
 obtain ⟨w6,hw6⟩:∃ w6,w6=w5.alloc (.cells (nodeC id (Ent.new par x) (.slice A x.attrs.length c) (.slice none 0 0)) 97):=⟨_,rfl⟩
 have hb56:Below w5.heap.size w5 w6:=by rw [hw6];exact (Below.refl _ w5).alloc (Nat.le_refl _) _
 have hb6:Below w.heap.size w w6:=hb5.trans (hb56.mono hb5.size)
 have hnode:w6.heap[w5.heap.size]? = some (.cells (nodeC id (Ent.new par x) (.slice A x.attrs.length c) (.slice none 0 0)) 97 (0,0)):=by rw [hw6];exact heap_alloc_new w5 _
 have hatt:attRow w6 (.slice A x.attrs.length c) (Ent.new par x).d.attrs:=zAC (World.ownsRow.mono h5 (Nat.zero_le _)) fun b hb=>hb56.block b (h5.lt b hb).2
 have ha:∀ b,(Value.slice A x.attrs.length c).ownBlock=some b→w.heap.size≤b:=fun b hb=>(h5.lt b hb).1
 have h6:=h.below hb6
 obtain ⟨w7,hr,hm,hg⟩:=h6.map.put hw hn (by simp [hno]) w5.heap.size
 obtain ⟨q1,q2⟩:=h.add hno (Ent.new par x) rfl w5.heap.size (.slice A x.attrs.length c) hb6 hb5.size hnode hatt ha hm hg
 rw [hw6] at hr;refine ⟨w7,hr,q1,⟨⟨hg.os.trans hb6.os,hg.tape.trans hb6.tape,hg.output.trans hb6.output,Nat.le_trans hb6.size hg.size,fun b hb hmi=>?_⟩,q2⟩⟩
 exact (hg.block b (Nat.lt_of_lt_of_le hb hb6.size) (fun e=>hmi (.inr (.inl (by injection e))))).trans (hb6.block b hb)
end
section
structure GS where
 op:List Int
 pl:Nat
 g:Int→Option Ent
 root:Int
 n:Nat
def growStep (s:GS) (x:ItemD) (id:Int):Option GS :=
 if x.level<0 then none else
 match s.op[x.level.toNat]? with
 | none=>none
 | some p =>
  if s.g id≠none then none else
  let op':=s.op.take (x.level.toNat+1)++[id]
  let g1:=fset s.g id (some (Ent.new p x))
  if p=0 then some { s with op:=op',g:=g1,root:=id,n:=s.n+1 } else
  match g1 p with
  | none=>none
  | some e =>
   if x.level=0 then
    if s.pl≤e.kids.length then some { s with op:=op',pl:=s.pl+1,g:=fset g1 p (some { e with kids:=e.kids.take s.pl++id :: e.kids.drop s.pl }),n:=s.n+1 } else none
   else some { s with op:=op',g:=fset g1 p (some { e with kids:=e.kids++[id] }),n:=s.n+1 }
def growS:List (ItemD × Int)→GS→Option GS
 | [],s=>some s
 | (x,id) :: r,s=>(growStep s x id).bind (growS r)
theorem zEt:∀ (l:List (ItemD × Int)) (x:ItemD) (id:Int) (s:GS),growS (l++[(x,id)]) s=(growS l s).bind fun s'=>growStep s' x id
 | [],x,id,s=>by simp [growS]
 | (x0,id0) :: r,x,id,s=>by
  simp only [List.cons_append,growS];cases growStep s x0 id0 with
  | none=>rfl
  | some s'=>simpa using zEt r x id s'
theorem zIT {l:List (ItemD × Int)} {k:Nat} {x:ItemD} {id:Int} (hk:l[k]? = some (x,id)) {s s2:GS} (h:growS l s=some s2) :
  ∃ s0 s1,growS (l.take k) s=some s0∧growStep s0 x id=some s1∧growS (l.take (k+1)) s=some s1:=by
 have e:l.take (k+1)=l.take k++[(x,id)]:=by rw [List.take_add_one,hk];rfl
 have app:∀ (a b:List (ItemD × Int)) (s:GS),growS (a++b) s=(growS a s).bind (growS b):=by
  intro a
  induction a with
  | nil=>intro b s;rfl
  | cons z a ih =>
   intro b s;obtain ⟨z1,z2⟩:=z
   simp only [List.cons_append,growS];cases growStep s z1 z2 with
   | none=>rfl
   | some s'=>simpa using ih b s'
 have h1:=app (l.take (k+1)) (l.drop (k+1)) s
 rw [List.take_append_drop,h] at h1;cases h2:growS (l.take (k+1)) s with
 | none=>rw [h2] at h1;cases h1
 | some s1 =>
  rw [e,zEt] at h2;cases h3:growS (l.take k) s with
  | none=>rw [h3] at h2;cases h2
  | some s0 =>
   rw [h3] at h2;exact ⟨s0,s1,rfl,h2,rfl⟩
section
variable {s s1:GS} {x:ItemD} {id p:Int} {lv:Nat}
theorem zFU (hlv:x.level=(lv:Int)) (hp:s.op[lv]? = some 0) (h:growStep s x id=some s1):s1={ s with op:=s.op.take (lv+1)++[id],g:=fset s.g id (some (Ent.new 0 x)),root:=id,n:=s.n+1 }:=by
 unfold growStep at h;rw [hlv,if_neg (by omega),Int.toNat_natCast,hp] at h
 simp only [if_true] at h
 split at h
 ·cases h
 ·injection h with h
  exact h.symm
theorem zEa (hlv:x.level=(lv:Int)) (h0:lv=0) (hp:s.op[lv]? = some p) (hp0:p≠0) (h:growStep s x id=some s1):∃ e,fset s.g id (some (Ent.new p x)) p=some e∧s.pl≤e.kids.length ∧
  s1={ s with op:=s.op.take (lv+1)++[id],pl:=s.pl+1,g:=fset (fset s.g id (some (Ent.new p x))) p (some { e with kids:=e.kids.take s.pl++id :: e.kids.drop s.pl }),n:=s.n+1 }:=by
 unfold growStep at h;rw [hlv,if_neg (by omega),Int.toNat_natCast,hp] at h
 simp only [hp0,if_false] at h
 split at h
 ·cases h
 ·split at h
  ·cases h
  ·rename_i e he
   rw [if_pos (by omega)] at h
   split at h
   ·rename_i hpl
    injection h with h
    exact ⟨e,he,hpl,h.symm⟩
   ·cases h
theorem zFT (hlv:x.level=(lv:Int)) (h0:lv≠0) (hp:s.op[lv]? = some p) (hp0:p≠0) (h:growStep s x id=some s1):∃ e,fset s.g id (some (Ent.new p x)) p=some e ∧
  s1={ s with op:=s.op.take (lv+1)++[id],g:=fset (fset s.g id (some (Ent.new p x))) p (some { e with kids:=e.kids++[id] }),n:=s.n+1 }:=by
 unfold growStep at h;rw [hlv,if_neg (by omega),Int.toNat_natCast,hp] at h
 simp only [hp0,if_false] at h
 split at h
 ·cases h
 ·split at h
  ·cases h
  ·rename_i e he
   rw [if_neg (by omega)] at h
   injection h with h
   exact ⟨e,he,h.symm⟩
end
def GB (n pl j:Nat) (s:GS):Prop:=(∀ z∈s.op,wfI z)∧s.n≤n+j∧s.pl≤pl+j ∧ ∀ id e,s.g id=some e→e.kids.length≤100000+j
theorem GB.step {n pl j:Nat} {s s1:GS} {x:ItemD} {id:Int} (h:GB n pl j s) (hw:wfI id) (hs:growStep s x id=some s1):GB n pl (j+1) s1:=by
 obtain ⟨h1,h2,h3,h4⟩:=h
 have hop:∀ (k:Nat),∀ z∈s.op.take k++[id],wfI z:=fun k z hz=>by
  rcases List.mem_append.1 hz with hz | hz
  ·exact h1 z (List.mem_of_mem_take hz)
  ·rw [List.mem_singleton.1 hz];exact hw
 have hnew:∀ (p:Int),∀ z e,fset s.g id (some (Ent.new p x)) z=some e→e.kids.length≤100000+j:=fun p z e he=>by
  unfold fset at he
  split at he
  ·injection he with he;rw [← he];simp [Ent.new]
  ·exact h4 z e he
 unfold growStep at hs
 split at hs
 ·cases hs
 split at hs
 ·cases hs
 rename_i p hp
 split at hs
 ·cases hs
 simp only at hs
 split at hs
 ·injection hs with hs
  rw [← hs];exact ⟨hop _,by simp;omega,by simp;omega,fun z e he=>by have:=hnew p z e he;omega⟩
 split at hs
 ·cases hs
 rename_i e0 he0
 have hk0:=hnew p p e0 he0
 have hset:∀ (l:List Int),l.length=e0.kids.length+1 → ∀ z e,fset (fset s.g id (some (Ent.new p x))) p (some { e0 with kids:=l }) z=some e→e.kids.length≤100000+(j+1):=fun l hl z e he=>by
  unfold fset at he
  split at he
  ·injection he with he;rw [← he];simp only;omega
  ·have:=hnew p z e he;omega
 split at hs
 ·split at hs
  ·injection hs with hs
   rw [← hs];exact ⟨hop _,by simp;omega,by simp;omega,hset _ (by simp;omega)⟩
  ·cases hs
 ·injection hs with hs
  rw [← hs];exact ⟨hop _,by simp;omega,by simp;omega,hset _ (by simp)⟩
theorem zHl:∀ (l:List (ItemD × Int)) (s s':GS) (n pl j:Nat),GB n pl j s→(∀ z∈l,wfI z.2)→growS l s=some s'→GB n pl (j+l.length) s'
 | [],s,s',n,pl,j,h,_,hs=>by injection hs with hs;rw [← hs];exact h
 | (x,id) :: r,s,s',n,pl,j,h,hw,hs=>by
  simp only [growS] at hs;cases h1:growStep s x id with
  | none=>rw [h1] at hs;cases hs
  | some s1 =>
   rw [h1] at hs;have:=zHl r s1 s' n pl (j+1) (h.step (hw (x,id) (by simp)) h1) (fun z hz=>hw z (by simp [hz])) hs
   simp only [List.length_cons];rw [show j+(r.length+1)=j+1+r.length by omega]
   exact this
end
section
namespace Fo
def ent:Int→Fo→Int→Option Ent
 | _,nil,_=>none
 | q,cons id d ks r,x=>if x=id then some ⟨q,d,ks.roots⟩ else match ent id ks x with
  | some e=>some e
  | none=>ent q r x
theorem ent_not:∀ (f:Fo) (q x:Int),x ∉ f.ids→f.ent q x=none
 | nil,_,_,_=>rfl
 | cons id d ks r,q,x,h=>by
  simp [ids] at h
  rw [ent,if_neg h.1,ent_not ks id x h.2.1];exact ent_not r q x h.2.2
theorem ent_mem:∀ (f:Fo) (q x:Int) (e:Ent),f.ent q x=some e→x∈f.ids
 | nil,_,_,_,h=>by cases h
 | cons id d ks r,q,x,e,h=>by
  rw [ent] at h;by_cases hx:x=id
  ·simp [ids,hx]
  rw [if_neg hx] at h;cases hk:ks.ent id x with
  | some e'=>simp [ids,ent_mem ks id x e' hk]
  | none=>rw [hk] at h;simp [ids,ent_mem r q x e h]
theorem ent_some:∀ (f:Fo) (q x:Int),x∈f.ids → ∃ e,f.ent q x=some e
 | nil,_,_,h=>by simp [ids] at h
 | cons id d ks r,q,x,h=>by
  rw [ent];by_cases hx:x=id
  ·exact ⟨_,by rw [if_pos hx]⟩
  rw [if_neg hx];cases hk:ks.ent id x with
  | some e'=>exact ⟨e',rfl⟩
  | none =>
   have h1:x ∉ ks.ids:=fun h1=>by
    obtain ⟨e,he⟩:=ent_some ks id x h1
    rw [hk] at he;cases he
   simp [ids,hx,h1] at h
   exact ent_some r q x h
theorem zJA:∀ (f:Fo) (q:Int) (g:Int→Option Ent),f.ids.Nodup→(∀ x∈f.ids,g x=f.ent q x)→Agr g q f
 | nil,_,_,_,_=>trivial
 | cons id d ks r,q,g,hn,h=>by
  simp only [ids,List.nodup_cons,List.nodup_append,List.mem_append,not_or] at hn;obtain ⟨⟨hk,hr⟩,nk,nr,hd⟩:=hn
  refine ⟨?_,?_,?_⟩
  ·rw [h id (by simp [ids]),ent,if_pos rfl]
  ·refine zJA ks id g nk fun x hx=>?_
   have hxi:x≠id:=by rintro rfl;exact hk hx
   rw [h x (by simp [ids,hx]),ent,if_neg hxi]
   obtain ⟨e,he⟩:=ent_some ks id x hx
   rw [he]
  ·refine zJA r q g nr fun x hx=>?_
   have hxi:x≠id:=by rintro rfl;exact hr hx
   rw [h x (by simp [ids,hx]),ent,if_neg hxi,ent_not ks id x (fun hk'=>hd x hk' x hx rfl)]
theorem agr_ent (f:Fo) (q:Int) (hn:f.ids.Nodup):Agr (f.ent q) q f:=zJA f q _ hn fun _ _=>rfl
end Fo
def prs (lv:Int) (F:Fo):List (ItemD × Int):=(F.flat lv).map fun r=>(r.x,r.id)
def addG (g:Int→Option Ent) (p:Int) (pos:Nat) (F:Fo):Int→Option Ent:=fun x=>match F.ent p x with
 | some e=>some e
 | none=>if x=p then (g p).map (fun e=>{ e with kids:=e.kids.take pos++F.roots++e.kids.drop pos }) else g x
theorem zKg (g:Int→Option Ent) (p:Int) (pos:Nat):addG g p pos .nil=g:=by
 funext x
 show (if x=p then _ else _)=_
 by_cases h:x=p
 ·subst h
  rw [if_pos rfl];cases g x with
  | none=>rfl
  | some e=>simp [Fo.roots]
 ·rw [if_neg h]
theorem zGH:∀ (a b:List (ItemD × Int)) (s:GS),growS (a++b) s=(growS a s).bind (growS b)
 | [],_,_=>rfl
 | (z1,z2) :: a,b,s=>by
  simp only [List.cons_append,growS];cases growStep s z1 z2 with
  | none=>rfl
  | some s'=>simpa using zGH a b s'
theorem zH2 (lv:Int) (id:Int) (d:NodeD) (ks r:Fo):prs lv (.cons id d ks r)=(d.at lv,id) :: (prs (lv+1) ks++prs lv r):=by
 simp [prs,Fo.flat]
theorem zI9 (g:Int→Option Ent) (p id:Int) (pos:Nat) (d:NodeD) (ks r:Fo) (e:Ent) (he:g p=some e) (hpos:pos≤e.kids.length) (hn:(Fo.cons id d ks r).ids.Nodup) (hp:p ∉ (Fo.cons id d ks r).ids) :
  addG (addG (fset (fset g id (some (Ent.new p (d.at 0)))) p (some { e with kids:=e.kids.take pos++id :: e.kids.drop pos })) id 0 ks) p (pos+1) r=addG g p pos (.cons id d ks r):=by
 simp only [Fo.ids,List.nodup_cons,List.nodup_append,List.mem_append,not_or] at hn;obtain ⟨⟨hk,hr⟩,nk,nr,hd⟩:=hn
 simp only [Fo.ids,List.mem_cons,List.mem_append,not_or] at hp;obtain ⟨hpi,hpk,hpr⟩:=hp
 funext x
 unfold addG;rw [Fo.ent];by_cases h1:x=id
 ·subst h1
  rw [if_pos rfl,Fo.ent_not r p x hr,if_neg (fun e=>hpi e.symm),Fo.ent_not ks x x hk]
  simp only [if_true];rw [zAQ _ _ (fun e=>hpi e.symm),zAN]
  simp [Ent.new,zJE]
 rw [if_neg h1];by_cases h2:x=p
 ·subst h2
  rw [Fo.ent_not r x x hpr,Fo.ent_not ks id x hpk];simp only [if_true];rw [if_neg h1,zAN,he];simp only [Option.map_some,Fo.roots]
  congr 2
  have ht:(e.kids.take pos).length=pos:=by simp;omega
  have:(e.kids.take pos++id :: e.kids.drop pos)=(e.kids.take pos++[id])++e.kids.drop pos:=by simp
  rw [this,List.take_left' (by simp;omega),List.drop_left' (by simp;omega),if_neg h1]
  simp
 ·rw [if_neg h2,if_neg h2]
  cases hrx:r.ent p x with
  | some e' =>
   have:=Fo.ent_mem r p x e' hrx
   rw [Fo.ent_not ks id x (fun h=>hd x h x this rfl)]
   simp [h1]
  | none =>
   cases hkx:ks.ent id x with
   | some e'=>simp [h1]
   | none=>simp [h1,fset,h2]
theorem zMf (p:Int) (d:NodeD) (lv:Int):Ent.new p (d.at lv)=Ent.new p (d.at 0):=rfl
theorem zDI:∀ (F:Fo) (lv:Nat) (p:Int) (s:GS) (pos:Nat) (e:Ent),F.ids.Nodup→p ∉ F.ids→p≠0→(∀ x∈F.ids,s.g x=none∧x≠0)→s.op[lv]? = some p→s.g p=some e→pos≤e.kids.length→(lv=0→pos=s.pl)→(lv≠0→pos=e.kids.length) →
  ∃ s',growS (prs lv F) s=some s'∧s'.op.take (lv+1)=s.op.take (lv+1)∧s'.pl=(if lv=0 then s.pl+F.roots.length else s.pl)∧s'.g=addG s.g p pos F∧s'.root=s.root∧s'.n=s.n+F.cnt
 | .nil,lv,p,s,pos,e,_,_,_,_,_,_,_,_,_=>⟨s,rfl,rfl,by simp [Fo.roots],(zKg _ _ _).symm,rfl,rfl⟩
 | .cons id d ks r,lv,p,s,pos,e,hn,hp,hp0,hg,hop,hge,hpos,hz,hnz=>by
  have hn':=hn
  have hp':=hp
  simp only [Fo.ids,List.nodup_cons,List.nodup_append,List.mem_append,not_or] at hn;obtain ⟨⟨hk,hr⟩,nk,nr,hd⟩:=hn
  simp only [Fo.ids,List.mem_cons,List.mem_append,not_or] at hp;obtain ⟨hpi,hpk,hpr⟩:=hp
  have hid:=hg id (by simp [Fo.ids])
  have hlt:=(List.getElem?_eq_some_iff.1 hop).1
  obtain ⟨g1,hg1⟩:∃ g1,g1=fset (fset s.g id (some (Ent.new p (d.at 0)))) p (some { e with kids:=e.kids.take pos++id :: e.kids.drop pos }):=⟨_,rfl⟩
  obtain ⟨pl1,hpl1⟩:∃ pl1,pl1=if lv=0 then s.pl+1 else s.pl:=⟨_,rfl⟩
  have hstep:growStep s (d.at lv) id=some ⟨s.op.take (lv+1)++[id],pl1,g1,s.root,s.n+1⟩:=by
   unfold growStep;rw [zCm,if_neg (by omega),Int.toNat_natCast,hop]
   simp only [hid.1,ne_eq,not_true,if_false,hp0];rw [zAQ _ _ hpi,hge,zMf];simp only
   by_cases h0:lv=0
   ·subst h0
    have:=hz rfl
    subst this;rw [if_pos (by rfl),if_pos hpos,hg1,hpl1,if_pos rfl]
   ·rw [if_neg (by omega),hg1,hpl1,if_neg h0,hnz h0]
    simp
  have e1:g1 id=some ⟨p,d,[]⟩:=by rw [hg1,zAQ _ _ (fun e=>hpi e.symm),zAN];rfl
  have e2:g1 p=some { e with kids:=e.kids.take pos++id :: e.kids.drop pos }:=by rw [hg1,zAN]
  have e3:∀ x,x≠id→x≠p→g1 x=s.g x:=fun x h1 h2=>by rw [hg1,zAQ _ _ h2,zAQ _ _ h1]
  have hlen:(s.op.take (lv+1)).length=lv+1:=by simp;omega
  obtain ⟨s2,q1,q2,q3,q4,q5,q6⟩:=zDI ks (lv+1) id ⟨s.op.take (lv+1)++[id],pl1,g1,s.root,s.n+1⟩ 0 ⟨p,d,[]⟩ nk hk hid.2 (fun x hx=>⟨by
    show g1 x=none
    rw [e3 x (fun h=>hk (h ▸ hx)) (fun h=>hpk (h ▸ hx))]
    exact (hg x (by simp [Fo.ids,hx])).1,(hg x (by simp [Fo.ids,hx])).2⟩) (by
    show (s.op.take (lv+1)++[id])[lv+1]? = some id
    rw [List.getElem?_append_right (by omega),hlen];simp) e1 (Nat.le_refl _) (by simp) (fun _=>rfl)
  have q2':s2.op.take (lv+1)=s.op.take (lv+1):=by
   have:=congrArg (List.take (lv+1)) q2
   rw [List.take_take,List.take_take,Nat.min_eq_left (by omega),List.take_left' hlen] at this
   exact this
  have q3':s2.pl=pl1:=by rw [q3,if_neg (by omega)]
  obtain ⟨s3,t1,t2,t3,t4,t5,t6⟩:=zDI r lv p s2 (pos+1) { e with kids:=e.kids.take pos++id :: e.kids.drop pos } nr hpr hp0 (fun x hx=>⟨by
    rw [q4];unfold addG;rw [Fo.ent_not ks id x (fun h=>hd x h x hx rfl)]
    have hxi:x≠id:=fun h=>hr (h ▸ hx)
    simp only [if_neg hxi];rw [e3 x hxi (fun h=>hpr (h ▸ hx))]
    exact (hg x (by simp [Fo.ids,hx])).1,(hg x (by simp [Fo.ids,hx])).2⟩) (by
    have:s2.op[lv]? = (s2.op.take (lv+1))[lv]?:=by rw [List.getElem?_take,if_pos (by omega)]
    rw [this,q2',List.getElem?_take,if_pos (by omega)];exact hop) (by
    rw [q4];unfold addG;rw [Fo.ent_not ks id p hpk];simp only [if_neg hpi];exact e2) (by simp;omega) (fun h=>by rw [q3',hpl1,if_pos h,hz h]) (fun h=>by
    simp [hnz h])
  refine ⟨s3,?_,by rw [t2,q2'],?_,?_,by rw [t5,q5],by rw [t6,q6];simp [Fo.cnt];omega⟩
  ·rw [zH2]
   show (growStep s (d.at lv) id).bind _=_
   rw [hstep,Option.bind_some,zGH];rw [show ((lv:Int)+1)=((lv+1:Nat):Int) by omega,q1]
   exact t1
  ·rw [t3,q3',hpl1]
   by_cases h0:lv=0
   ·simp [h0,Fo.roots];omega
   ·simp [h0]
  ·rw [t4,q4,hg1]
   exact zI9 s.g p id pos d ks r e hge hpos hn' hp'
theorem zIS (id:Int) (d:NodeD) (ks:Fo) (pl n0:Nat) (hn:(Fo.cons id d ks .nil).ids.Nodup) (h0:(0:Int) ∉ (Fo.cons id d ks .nil).ids) (r0:Int) :
  ∃ s',growS (prs 0 (.cons id d ks .nil)) ⟨[0],pl,fun _=>none,r0,n0⟩=some s'∧s'.g=(Fo.cons id d ks .nil).ent 0∧s'.root=id∧s'.n=n0+(Fo.cons id d ks .nil).cnt:=by
 simp only [Fo.ids,List.nodup_cons,List.nodup_append,List.mem_append,not_or] at hn;obtain ⟨⟨hk,hr⟩,nk,nr,hd⟩:=hn
 simp only [Fo.ids,List.mem_cons,List.mem_append,not_or] at h0;obtain ⟨h0i,h0k,_⟩:=h0
 have hstep:growStep ⟨[0],pl,fun _=>none,r0,n0⟩ (d.at 0) id=some ⟨[0,id],pl,fset (fun _=>none) id (some (Ent.new 0 (d.at 0))),id,n0+1⟩:=by
  unfold growStep;rw [zCm,if_neg (by omega)]
  simp
 obtain ⟨s2,q1,q2,q3,q4,q5,q6⟩:=zDI ks 1 id ⟨[0,id],pl,fset (fun _=>none) id (some (Ent.new 0 (d.at 0))),id,n0+1⟩ 0 ⟨0,d,[]⟩ nk hk (fun e=>h0i e.symm) (fun x hx=>⟨by
   show fset (fun _=>none) id (some (Ent.new 0 (d.at 0))) x=none
   have hxi:x≠id:=by rintro rfl;exact hk hx
   rw [zAQ _ _ hxi],fun h=>h0k (h ▸ hx)⟩) rfl (by show fset (fun _=>none) id (some (Ent.new 0 (d.at 0))) id=_;rw [zAN];rfl) (Nat.le_refl _) (by simp) (fun _=>rfl)
 refine ⟨s2,?_,?_,q5,by rw [q6];simp [Fo.cnt];omega⟩
 ·rw [zH2]
  show (growStep _ (d.at 0) id).bind _=_
  rw [hstep,Option.bind_some];have:prs 0 Fo.nil=[]:=rfl
  rw [this,List.append_nil];exact q1
 ·rw [q4]
  funext x
  unfold addG;rw [Fo.ent];by_cases hx:x=id
  ·subst hx
   rw [Fo.ent_not ks x x hk];simp only [if_true,zAN];simp [Ent.new,zJE]
  ·rw [if_neg hx]
   cases ks.ent id x with
   | some e=>simp [hx]
   | none=>simp [hx,fset,Fo.ent]
end
section
namespace Fo
end Fo
end
section
def topOf (prev:Option ItemD):Int:=match prev with
 | none=>0
 | some p=>p.level+1
def isText (prev:Option ItemD):Bool:=match prev with
 | none=>false
 | some p=>p.kind == 2
def foE (prev:Option ItemD) (x:ItemD):Int:=if x.level<0∨topOf prev<x.level∨(isText prev=true∧x.level=topOf prev) then 69 else partsE x
def forestF (prev:Option ItemD) (dp:Int):List ItemD→Int × Int
 | []=>(dp,0)
 | x :: r=>if foE prev x=0 then forestF (some x) (max dp x.level) r else (0,foE prev x)
def forestL (l:List ItemD):Int × Int:=if l=[] then (0,40) else forestF none 0 l
def headX:ItemD:=⟨0,1,[120],[],[]⟩
end
section
def stepOk (p x:ItemD):Prop:=x.level≤p.level+(if p.kind=2 then 0 else 1)
def Steps:List ItemD→Prop
 | []=>True
 | [_]=>True
 | a :: b :: r=>stepOk a b∧Steps (b :: r)
def Fo.Leaf:Fo→Prop
 | .nil=>True
 | .cons _ d ks r=>(d.kind=2→ks=.nil)∧Leaf ks∧Leaf r
theorem Steps.tail {a:ItemD} {l:List ItemD} (h:Steps (a :: l)):Steps l:=by
 cases l with
 | nil=>trivial
 | cons b r=>exact h.2
theorem Steps.head {a:ItemD} {l:List ItemD} (h:Steps (a :: l)):∀ b∈l.head?,stepOk a b:=by
 cases l with
 | nil=>intro b hb;simp at hb
 | cons c r=>intro b hb;simp at hb;subst hb;exact h.1
theorem Steps.cons {a:ItemD} {l:List ItemD} (h:Steps l) (hb:∀ b∈l.head?,stepOk a b):Steps (a :: l):=by
 cases l with
 | nil=>trivial
 | cons b r=>exact ⟨hb b (by simp),h⟩
theorem Steps.left:∀ (A B:List ItemD),Steps (A++B)→Steps A
 | [],_,_=>trivial
 | a :: A,B,h=>by
  have h1:=Steps.left A B h.tail
  refine h1.cons fun b hb=>?_
  refine Steps.head h b ?_
  cases A with
  | nil=>simp at hb
  | cons c A=>simpa using hb
theorem Steps.right:∀ (A B:List ItemD),Steps (A++B)→Steps B
 | [],_,h=>h
 | _ :: A,B,h=>Steps.right A B h.tail
theorem Steps.app:∀ (A B:List ItemD),Steps A→Steps B→(∀ a∈A.getLast?,∀ b∈B.head?,stepOk a b)→Steps (A++B)
 | [],_,_,hB,_=>hB
 | [a],B,_,hB,h=>Steps.cons hB (h a (by simp))
 | a :: b :: A,B,hA,hB,h=>⟨hA.1,Steps.app (b :: A) B hA.2 hB (fun x hx=>h x (by simpa [List.getLast?_cons_cons] using hx))⟩
theorem zLv:∀ (n:Nat) (L:List RowD) (lv:Int),L.length≤n→(∀ r∈L,lv≤r.x.level)→(∀ r∈L.head?,r.x.level=lv)→Steps (L.map (·.x)) → ∃ F:Fo,F.flat lv=L∧F.Leaf
 | _,[],_,_,_,_,_=>⟨.nil,rfl,trivial⟩
 | 0,_ :: _,_,h,_,_,_=>by simp at h
 | n+1,r0 :: T,lv,hn,hge,hhd,hst=>by
  have h0:r0.x.level=lv:=hhd r0 (by simp)
  obtain ⟨K,hK⟩:∃ K,K=T.takeWhile (fun r=>decide (lv<r.x.level)):=⟨_,rfl⟩
  obtain ⟨R,hR⟩:∃ R,R=T.dropWhile (fun r=>decide (lv<r.x.level)):=⟨_,rfl⟩
  have hT:T=K++R:=by rw [hK,hR,List.takeWhile_append_dropWhile]
  have hKlv:∀ r∈K,lv<r.x.level:=fun r hr=>by
   rw [hK] at hr;have:=List.all_takeWhile (p:=fun r:RowD=>decide (lv<r.x.level)) (l:=T)
   rw [List.all_eq_true] at this
   simpa using this r hr
  have hRhd:∀ r∈R.head?,r.x.level=lv:=fun r hr=>by
   have h1:¬ (lv<r.x.level):=by
    have:=List.head?_dropWhile_not (fun r:RowD=>decide (lv<r.x.level)) T
    rw [← hR,Option.mem_def.1 hr] at this
    simpa using this
   have h2:=hge r (by rw [hT];exact List.mem_cons_of_mem _ (List.mem_append_right _ (List.mem_of_mem_head? hr)))
   omega
  rw [List.map_cons,hT,List.map_append] at hst;have hlen:K.length+R.length≤n:=by
   have:=congrArg List.length hT
   simp at this hn;omega
  have hKhd:∀ r∈K.head?,r.x.level=lv+1∧r0.x.kind≠2:=fun r hr=>by
   have h1:=hKlv r (List.mem_of_mem_head? hr)
   have h2:=Steps.head hst r.x (by
    cases K with
    | nil=>simp at hr
    | cons a K=>simp at hr;subst hr;simp)
   unfold stepOk at h2;rw [h0] at h2
   split at h2 <;> omega
  obtain ⟨F1,f1,f2⟩:=zLv n K (lv+1) (by omega) (fun r hr=>hKlv r hr) (fun r hr=>(hKhd r hr).1) (Steps.left _ _ hst.tail)
  obtain ⟨F2,g1,g2⟩:=zLv n R lv (by omega) (fun r hr=>hge r (by rw [hT];exact List.mem_cons_of_mem _ (List.mem_append_right _ hr))) hRhd (Steps.right _ _ hst.tail)
  refine ⟨.cons r0.id r0.x.node F1 F2,?_,⟨fun hk=>?_,f2,g2⟩⟩
  ·rw [Fo.flat,f1,g1,hT,← h0,zL7]
  ·cases F1 with
   | nil=>rfl
   | cons id d ks r =>
    exfalso
    rw [Fo.flat] at f1;exact (hKhd ⟨id,d.at (lv+1)⟩ (by rw [← f1];simp)).2 hk
/-! ## Check -/
def okC (prev:Option ItemD) (k:Nat):List ItemD→Prop
 | []=>True
 | x :: r=>oneE prev k x=0∧okC (some x) (k+1) r
theorem zEp:∀ (l:List ItemD) (prev:Option ItemD) (k:Nat),(checkF prev k l).2=0 ↔ okC prev k l
 | [],_,_=>by simp [checkF,okC]
 | x :: r,prev,k=>by
  unfold checkF okC;by_cases h:oneE prev k x=0
  ·rw [if_pos h,zEp r (some x) (k+1)]
   simp [h]
  ·rw [if_neg h]
   simp [h]
theorem zK9 (p:ItemD) (k:Nat) (x:ItemD):placeE (some p) k x=0 ↔ (stepOk p x∧1≤x.level∧x.level<40∧k<1000):=by
 unfold placeE stepOk;simp only
 by_cases h1:x.level<1∨p.level+1<x.level∨(p.level<x.level∧p.kind=2)
 ·rw [if_pos h1]
  refine ⟨fun h=>(by cases h),fun h=>?_⟩
  obtain ⟨h2,h3,_⟩:=h
  split at h2 <;> omega
 ·rw [if_neg h1]
  by_cases h2:40≤x.level
  ·rw [if_pos h2]
   exact ⟨fun h=>(by cases h),fun h=>(by omega)⟩
  ·rw [if_neg h2]
   by_cases h3:1000≤k
   ·rw [if_pos h3]
    exact ⟨fun h=>(by cases h),fun h=>(by omega)⟩
   ·rw [if_neg h3]
    refine ⟨fun _=>⟨?_,by omega,by omega,by omega⟩,fun _=>rfl⟩
    split <;> omega
theorem zHx:∀ (l:List ItemD) (p:ItemD) (k:Nat),okC (some p) k l ↔ (Steps (p :: l)∧(∀ x∈l,1≤x.level∧x.level<40∧partsE x=0)∧(l=[]∨k+l.length≤1000))
 | [],p,k=>by simp [okC,Steps]
 | x :: r,p,k=>by
  have ho:oneE (some p) k x=0 ↔ (stepOk p x∧1≤x.level∧x.level<40∧k<1000∧partsE x=0):=by
   have hp:=zK9 p k x
   unfold oneE;by_cases h:placeE (some p) k x=0
   ·rw [if_pos h]
    have:=hp.1 h
    exact ⟨fun h'=>⟨this.1,this.2.1,this.2.2.1,this.2.2.2,h'⟩,fun h'=>h'.2.2.2.2⟩
   ·rw [if_neg h]
    exact ⟨fun h'=>absurd h' h,fun h'=>absurd (hp.2 ⟨h'.1,h'.2.1,h'.2.2.1,h'.2.2.2.1⟩) h⟩
  unfold okC;rw [ho,zHx r x (k+1)]
  constructor
  ·rintro ⟨⟨h1,h2,h3,h4,h5⟩,h6,h7,h8⟩
   refine ⟨⟨h1,h6⟩,fun z hz=>?_,.inr ?_⟩
   ·rcases List.mem_cons.1 hz with rfl | hz
    ·exact ⟨h2,h3,h5⟩
    ·exact h7 z hz
   ·rcases h8 with rfl | h8
    ·simp;omega
    ·simp;omega
  ·rintro ⟨h1,h2,h3⟩
   have hx:=h2 x (by simp)
   have h3':k+(r.length+1)≤1000:=by
    rcases h3 with h3 | h3
    ·cases h3
    ·simpa using h3
   exact ⟨⟨h1.1,hx.1,hx.2.1,by omega,hx.2.2⟩,h1.2,fun z hz=>h2 z (by simp [hz]),.inr (by omega)⟩
theorem zDe (l:List ItemD):(checkL l).2=0 ↔ ∃ x r,l=x :: r∧x.level=0∧x.kind=1∧Steps l∧(∀ z∈r,1≤z.level)∧(∀ z∈l,z.level<40∧partsE z=0)∧l.length≤1000:=by
 unfold checkL;cases l with
 | nil=>simp
 | cons x r =>
  rw [if_neg (by simp),zEp]
  unfold okC;rw [zHx];have ho:oneE none 0 x=0 ↔ (x.level=0∧x.kind=1∧partsE x=0):=by
   unfold oneE placeE;simp only
   by_cases h:x.level≠0∨x.kind≠1
   ·rw [if_pos h,if_neg (by decide)]
    constructor
    ·intro h';cases h'
    ·rintro ⟨h1,h2,_⟩
     rcases h with h | h
     ·exact absurd h1 h
     ·exact absurd h2 h
   ·rw [if_neg h,if_pos rfl]
    constructor
    ·intro h'
     exact ⟨by omega,by omega,h'⟩
    ·exact fun h'=>h'.2.2
  rw [ho]
  constructor
  ·rintro ⟨⟨h1,h2,h3⟩,h4,h5,h6⟩
   refine ⟨x,r,rfl,h1,h2,h4,fun z hz=>(h5 z hz).1,fun z hz=>?_,?_⟩
   ·rcases List.mem_cons.1 hz with rfl | hz
    ·exact ⟨by omega,h3⟩
    ·exact (h5 z hz).2
   ·rcases h6 with rfl | h6
    ·simp
    ·simp at h6 ⊢;omega
  ·rintro ⟨x',r',h0,h1,h2,h3,h4,h5,h6⟩
   injection h0 with h0 h0'
   subst h0;subst h0';refine ⟨⟨h1,h2,(h5 x (by simp)).2⟩,h3,fun z hz=>⟨h4 z hz,h5 z (by simp [hz])⟩,.inr ?_⟩
   simp at h6;omega
/-! ## Forests -/
theorem zHF {x:ItemD} (h:namesE x=0):x.attrs.length≤20:=by
 unfold namesE at h
 split at h
 ·split at h
  ·cases h
  ·omega
 ·cases h
theorem zCb {x:ItemD} (h:partsE x=0):x.attrs.length≤20:=by
 unfold partsE at h
 split at h
 ·rename_i h1;rw [h1.2.2];simp
 ·split at h
  ·cases h
  ·split at h
   ·rename_i h1;exact zHF h1
   ·rename_i h1;exact absurd h h1
end
section
def findL:List RowD→Int→Option Nat
 | [],_=>none
 | r :: T,p=>if r.id=p then some 0 else (findL T p).map (· + 1)
def lvlL (L:List RowD) (k:Nat):Int:=match L[k]? with
 | some r=>r.x.level
 | none=>0
def belowL (L:List RowD) (k:Nat):List RowD:=(L.drop (k+1)).takeWhile (fun r=>decide (lvlL L k<r.x.level))
def endL (L:List RowD) (k:Nat):Nat:=k+1+(belowL L k).length
def posL (lv:Int):Nat→List RowD→List Nat
 | _,[]=>[]
 | b,r :: T=>if r.x.level=lv then b :: posL lv (b+1) T else posL lv (b+1) T
def kidsL (L:List RowD) (k:Nat):List Nat:=posL (lvlL L k+1) (k+1) (belowL L k)
def lastL (lv:Int):Int→List RowD→Int
 | a,[]=>a
 | a,r :: T=>lastL lv (if r.x.level=lv then r.id else a) T
def parentL (L:List RowD) (k:Nat):Int:=lastL (lvlL L k-1) 0 (L.take k)
def partL (l:List RowD) (less:Int):List RowD:=l.map fun r=>⟨r.id,{ r.x with level:=r.x.level-less }⟩
def namedL (next:Int) (l:List ItemD) (more:Int):List RowD:=(l.zip (idsFrom next l.length)).map fun z=>⟨z.2,{ z.1 with level:=z.1.level+more }⟩
def spotL (L:List RowD) (k:Nat) (pl:Nat):Nat:=match (kidsL L k)[pl]? with
 | some i=>i
 | none=>endL L k
def laidL (L:List RowD) (n:Nat) (new:List RowD):List RowD:=L.take n++new++L.drop n
def withoutL (L:List RowD) (k:Nat):List RowD:=L.take k++L.drop (endL L k)
def setL (L:List RowD) (k:Nat) (h:NodeD→NodeD):List RowD:=L.modify k fun r=>⟨r.id,(h r.x.node).at r.x.level⟩
def itemsL (L:List RowD) (k:Nat):List ItemD:=(partL ((L.drop k).take (endL L k-k)) (lvlL L k)).map (·.x)
def withA:List AttrD→AttrD→List AttrD
 | [],a=>[a]
 | b :: r,a=>if leB a.name b.name then a :: (b :: r).filter (fun c=>decide (c.name≠a.name)) else b :: withA r a
def lessA (l:List AttrD) (name:List UInt8):List AttrD:=l.filter fun c=>decide (c.name≠name)
abbrev Ans:=List RowD × Int × Int × Int
def loadL (L:List RowD) (next:Int) (l:List ItemD):Ans :=
 if (checkL l).2≠0 then (L,next,0,(checkL l).2) else if 2147483647<next+(l.length:Int) then (L,next,0,66) else (namedL next l 0,next+(l.length:Int),next,0)
def insertL (L:List RowD) (next:Int) (id pl:Int) (l:List ItemD):Ans:=match findL L id with
 | none=>(L,next,0,60)
 | some k=>match L[k]? with
  | none=>(L,next,0,60)
  | some r =>
   if r.x.kind≠1 then (L,next,0,68) else
   if pl<0∨((kidsL L k).length:Int)<pl then (L,next,0,69) else
   if (forestL l).2≠0 then (L,next,0,(forestL l).2) else
   if 40≤r.x.level+1+(forestL l).1 then (L,next,0,65) else
   if 1000<L.length+l.length∨2147483647<next+(l.length:Int) then (L,next,0,66) else
   (laidL L (spotL L k pl.toNat) (namedL next l (r.x.level+1)),next+(l.length:Int),next,0)
def deleteL (L:List RowD) (next:Int) (id:Int):Ans:=match findL L id with
 | none=>(L,next,0,60)
 | some k=>if k=0 then (L,next,0,62) else (withoutL L k,next,0,0)
def moveL (L:List RowD) (next:Int) (id to pl:Int):Ans:=match findL L id,findL L to with
 | some k,some p=>if k=0 then (L,next,0,62) else match L[p]? with
  | none=>(L,next,0,60)
  | some r =>
   if r.x.kind≠1 then (L,next,0,68) else
   if k≤p∧p<endL L k then (L,next,0,61) else
   match findL (withoutL L k) to with
   | none=>(L,next,0,60)
   | some q =>
    if pl<0∨((kidsL (withoutL L k) q).length:Int)<pl then (L,next,0,69) else
    let new:=partL ((L.drop k).take (endL L k-k)) (lvlL L k-r.x.level-1)
    if new.any (fun z=>decide (40≤z.x.level)) then (L,next,0,65) else
    (laidL (withoutL L k) (spotL (withoutL L k) q pl.toNat) new,next,0,0)
 | _,_=>(L,next,0,60)
def setAttrL (L:List RowD) (next:Int) (id:Int) (name value:List UInt8):Ans:=match findL L id with
 | none=>(L,next,0,60)
 | some k=>match L[k]? with
  | none=>(L,next,0,60)
  | some r =>
   if r.x.kind≠1 then (L,next,0,68) else
   if nameL name=false then (L,next,0,63) else
   if charsE value≠0 then (L,next,0,charsE value) else
   if 20<(withA r.x.attrs ⟨name,value⟩).length then (L,next,0,67) else
   (setL L k fun d=>{ d with attrs:=withA d.attrs ⟨name,value⟩ },next,0,0)
def delAttrL (L:List RowD) (next:Int) (id:Int) (name:List UInt8):Ans:=match findL L id with
 | none=>(L,next,0,60)
 | some k=>match L[k]? with
  | none=>(L,next,0,60)
  | some r =>
   if r.x.kind≠1 then (L,next,0,68) else
   if (lessA r.x.attrs name).length=r.x.attrs.length then (L,next,0,63) else
   (setL L k fun d=>{ d with attrs:=lessA d.attrs name },next,0,0)
def setTextL (L:List RowD) (next:Int) (id:Int) (s:List UInt8):Ans:=match findL L id with
 | none=>(L,next,0,60)
 | some k=>match L[k]? with
  | none=>(L,next,0,60)
  | some r =>
   if r.x.kind≠2 then (L,next,0,68) else
   if charsE s≠0 then (L,next,0,charsE s) else
   (setL L k fun d=>{ d with text:=s },next,0,0)
structure OpD where
 kind:Int
 id:Int
 to:Int
 pl:Int
 name:List UInt8
 text:List UInt8
 l:List ItemD
def doL (L:List RowD) (next:Int) (o:OpD):Ans :=
 if o.kind=0 then loadL L next o.l else
 if o.kind=1 then insertL L next o.id o.pl o.l else
 if o.kind=2 then deleteL L next o.id else
 if o.kind=3 then moveL L next o.id o.to o.pl else
 if o.kind=4 then setAttrL L next o.id o.name o.text else
 if o.kind=5 then delAttrL L next o.id o.name else
 if o.kind=6 then setTextL L next o.id o.text else (L,next,0,0)
/-! ## Where a node stands -/
theorem zMd (A:List RowD) (r:RowD) (T:List RowD):(A++r :: T)[A.length]? = some r:=by simp
theorem zLg (A:List RowD) (r:RowD) (T:List RowD):lvlL (A++r :: T) A.length=r.x.level:=by unfold lvlL;rw [zMd]
theorem zLx (A:List RowD) (r:RowD) (T:List RowD):(A++r :: T).drop (A.length+1)=T:=by
 rw [← List.drop_drop,List.drop_left];rfl
theorem zDC:∀ (K B:List RowD) (lv:Int),(∀ z∈K,lv<z.x.level)→(∀ z∈B.head?,z.x.level≤lv)→(K++B).takeWhile (fun r=>decide (lv<r.x.level))=K
 | [],[],_,_,_=>rfl
 | [],b :: B,lv,_,h=>by
  have:=h b (by simp)
  rw [List.nil_append,List.takeWhile_cons_of_neg (by simp;omega)]
 | k :: K,B,lv,h,h'=>by
  have:=h k (by simp)
  rw [List.cons_append,List.takeWhile_cons_of_pos (by simp;omega),zDC K B lv (fun z hz=>h z (by simp [hz])) h']
section
variable {A K B:List RowD} {r:RowD}
theorem below_at (hK:∀ z∈K,r.x.level<z.x.level) (hB:∀ z∈B.head?,z.x.level≤r.x.level):belowL (A++r :: (K++B)) A.length=K:=by
 unfold belowL;rw [zLg,zLx,zDC K B _ hK hB]
theorem zMc (hK:∀ z∈K,r.x.level<z.x.level) (hB:∀ z∈B.head?,z.x.level≤r.x.level):endL (A++r :: (K++B)) A.length=A.length+1+K.length:=by
 unfold endL;rw [below_at hK hB]
end
theorem zHz (lv:Int):∀ (X Y:List RowD) (b:Nat),posL lv b (X++Y)=posL lv b X++posL lv (b+X.length) Y
 | [],_,_=>rfl
 | x :: X,Y,b=>by
  simp only [List.cons_append,posL,zHz lv X Y (b+1),List.length_cons];rw [show b+1+X.length=b+(X.length+1) by omega]
  split <;> rfl
theorem zGg (lv:Int):∀ (X:List RowD) (b:Nat),(∀ z∈X,lv<z.x.level)→posL lv b X=[]
 | [],_,_=>rfl
 | x :: X,b,h=>by
  have:=h x (by simp)
  rw [posL,if_neg (by omega),zGg lv X (b+1) (fun z hz=>h z (by simp [hz]))]
def offs:Nat→Fo→List Nat
 | _,.nil=>[]
 | b,.cons _ _ ks r=>b :: offs (b+1+ks.cnt) r
theorem zH0:∀ (F:Fo) (lv:Int) (b:Nat),posL lv b (F.flat lv)=offs b F
 | .nil,_,_=>rfl
 | .cons id d ks r,lv,b=>by
  rw [Fo.flat,posL,if_pos (by rfl),zHz,zGg lv _ _ (fun z hz=>by have:=Fo.flat_ge ks (lv+1) z hz;omega),Fo.flat_len,zH0 r lv]
  rfl
theorem zFb:∀ (F:Fo) (b:Nat),(offs b F).length=F.roots.length
 | .nil,_=>rfl
 | .cons id d ks r,b=>by simp [offs,Fo.roots,zFb r]
theorem zHw:∀ (X Y:Fo) (b:Nat),offs b (X.app Y)=offs b X++offs (b+X.cnt) Y
 | .nil,_,_=>rfl
 | .cons id d ks r,Y,b=>by
  simp only [Fo.app,offs,Fo.cnt,zHw r Y,List.cons_append];rw [show b+1+ks.cnt+r.cnt=b+(1+ks.cnt+r.cnt) by omega]
theorem zK7 (X Y:Fo) (b:Nat):(offs b (X.app Y))[X.roots.length]? = match Y with
  | .nil=>none
  | .cons _ _ _ _=>some (b+X.cnt):=by
 rw [zHw,List.getElem?_append_right (by rw [zFb];exact Nat.le_refl _),zFb,Nat.sub_self]
 cases Y <;> rfl
theorem zGP (lv:Int):∀ (X Y:List RowD) (a:Int),lastL lv a (X++Y)=lastL lv (lastL lv a X) Y
 | [],_,_=>rfl
 | x :: X,Y,a=>by simp only [List.cons_append,lastL,zGP lv X Y]
theorem zEw (lv:Int):∀ (X:List RowD) (a:Int),(∀ z∈X,lv<z.x.level)→lastL lv a X=a
 | [],_,_=>rfl
 | x :: X,a,h=>by
  have:=h x (by simp)
  rw [lastL,if_neg (by omega),zEw lv X a (fun z hz=>h z (by simp [hz]))]
end
section
open Go.RowKit Go.Shelf
section
variable {w:World} {t mb:Nat} {y:Lay} {g:Int→Option Ent} {root next:Int} {n:Nat}
end
end
section
open Go.RowKit Go.Shelf
attribute [local go_sem] Oper.semAt_some
def remG (g:Int→Option Ent) (l:List Int):Int→Option Ent:=fun x=>if x∈l then none else g x
section
variable {w:World} {t mb:Nat} {y:Lay} {g:Int→Option Ent} {root next:Int} {n:Nat}
end
end
end Go.Proofs.YtcombcoilpmnkaaGreat

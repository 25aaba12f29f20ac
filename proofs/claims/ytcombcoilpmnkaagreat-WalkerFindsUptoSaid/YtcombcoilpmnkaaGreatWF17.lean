/-
  Texts of this claim, joined (by a program of the claim's author): WEval, PqSm, WFind, WRef, WRefP, WRefQ, WRefR, WAliP, WAli, WSelP, WStp.
-/
import Derived.Test.YtcombcoilpmnkaaGreatWF1
import Derived.Test.YtcombcoilpmnkaaGreatWF16
import Derived.Test.YtcombcoilpmnkaaGreatWF15
import Derived.Test.YtcombcoilpmnkaaGreatWF11
import Derived.Test.YtcombcoilpmnkaaGreatWF4
import Derived.Test.YtcombcoilpmnkaaGreatWF12
import Derived.Lib.Hide
import Derived.Test.YtcombcoilpmnkaaGreatWF9
import Derived.Test.YtcombcoilpmnkaaGreatWF3
namespace Go.Proofs.YtcombcoilpmnkaaGreat
set_option maxRecDepth 100000
set_option maxHeartbeats 16000000
section
open Go.RowKit Go.Shelf
attribute [local go_sem] Oper.semAt_some zJl zD9 zJm zB8 zJI zDt zJJ zB3 zB4 zB5 zB6
theorem zEs (f:Fo):∀ (a b:List StepD) (F:Int→Bool),foundW f (a++b) F=foundW f b (foundW f a F)
 | [],_,_=>rfl
 | s :: a,b,F=>by rw [List.cons_append,foundW,foundW,zEs f a b]
def stepS (f:Fo) (S:List Int) (s:StepD) (l:List Int):List Int:=l.flatMap fun x=>if x∈S then stepW f s x else []
theorem zIs {f:Fo} {S:List Int} {s:StepD} {l:List Int} {k:Nat} {x:Int} (h:l[k]? = some x):stepS f S s (l.take (k+1))=stepS f S s (l.take k)++if x∈S then stepW f s x else []:=by
 unfold stepS;rw [List.take_add_one,h,List.flatMap_append];simp
theorem zHU {f:Fo} {S:List Int} {F:Int→Bool} (s:StepD) (h:∀ y∈0 :: f.ids,decide (y∈S)=F y) (y:Int):decide (y∈stepS f S s (0 :: f.ids))=foundW f [s] F y:=by
 have e:∀ (p:Prop) [Decidable p] (b:Bool),(p ↔ b=true)→decide p=b:=fun p _ b h=>by by_cases hp:p <;> simp_all
 refine e _ _ ?_
 unfold stepS;rw [foundW,foundW,List.mem_flatMap,List.any_eq_true]
 constructor
 ·rintro ⟨x,hx,hy⟩
  refine ⟨x,hx,?_⟩
  split at hy
  ·rename_i hS
   rw [← h x hx,decide_eq_true hS,decide_eq_true hy]
   rfl
  ·simp at hy
 ·rintro ⟨x,hx,hy⟩
  rw [← h x hx,Bool.and_eq_true,decide_eq_true_iff,decide_eq_true_iff] at hy;exact ⟨x,hx,by rw [if_pos hy.1];exact hy.2⟩
section
variable {M:Nat→Prop} {t:Nat} {f:Fo} {next:Int} {w w':World}
theorem zGr (h:InvF f next) {x:Int} (hx:x∈0 :: f.ids) (s:StepD):(stepW f s x).length≤1002:=by
 have h1:=zDO f s.preds ((axisW f s.axis x).filter fun x=>testW s (entW f x).d)
 have h2:=List.length_filter_le (fun x=>testW s (entW f x).d) (axisW f s.axis x)
 have h3:=zF5 h hx s.axis
 unfold stepW;omega
theorem zKO (h:InvF f next) {x:Int} (hx:x∈0 :: f.ids) (s:StepD) {y:Int} (hy:y∈stepW f s x):y∈0 :: f.ids :=
 zF6 h hx s.axis (List.mem_filter.1 (zDP f _ _ y hy)).1
theorem zEV (h:InvF f next) (S:List Int) (s:StepD):∀ l:List Int,(∀ x∈l,x∈0 :: f.ids)→(stepS f S s l).length≤l.length * 1002
 | [],_=>by simp [stepS]
 | x :: l,hl=>by
  have h1:=zEV h S s l fun y hy=>hl y (List.mem_cons_of_mem _ hy)
  have h2:=zGr h (hl x List.mem_cons_self) s
  unfold stepS at h1 ⊢;rw [List.flatMap_cons,List.length_append,List.length_cons];have:(if x∈S then stepW f s x else []).length≤1002:=by
   split
   ·exact h2
   ·simp
  omega
theorem zEQ {l:List StepD} (h:rightL l=true):l.length≤20 ∧ ∀ s∈l,s.preds.length≤5:=by
 unfold rightL at h;simp only [Bool.and_eq_true,List.all_eq_true,decide_eq_true_eq] at h;refine ⟨h.2.2,fun s hs=>?_⟩
 have:=h.1 s hs
 unfold stepB at this;simp only [Bool.and_eq_true,decide_eq_true_eq] at this;exact this.1.2
def EvalPost (w:World) (f:Fo) (l:List StepD) (e:Ending) (w':World):Prop :=
 ∃ A c,e=.returned (.tuple #[.slice A (evalW f l).length c,.bool (rightL l)])∧intRow w' (.slice A (evalW f l).length c) (evalW f l)∧Below w.heap.size w w' ∧ ∀ b,(Value.slice A (evalW f l).length c).ownBlock=some b→w.heap.size≤b
theorem zKV (h:TreeM M t f next w) (l:List StepD) (A:Option Addr) (c:Nat) (hA:StepsAt w w.heap.size A l) (hs:SmallSteps l) :
  Calls Tryz.prog 13 #[treeI t,.slice A l.length c] w (EvalPost w f l):=by
 have hmm:=@run_makeMap Tryz.prog
 have HI:=Lib.hid h.inv
 have HTW:=Lib.hid h
 have HA:=Lib.hid hA
 have HS:=Lib.hid hs
 unfold treeI;obtain ⟨R,hR⟩:∃ R,Hid (rightL l=R):=⟨_,rfl⟩
 clear h hA hs;cases R with
 | false =>
  have HE:Hid (evalW f l=[]):=by show _=_;unfold evalW;rw [hR.out];rfl
  go_enter Tryz.func13,Tryz.ntmps13
  go_wp2_with fail;refine (zF3 l A c w HA.out HS.out false hR).mono ?_
  rintro e w1 ⟨rfl,hb1⟩
  go_wp2_with fail
  go_ret2;unfold EvalPost;rw [HE.out,hR.out];exact ⟨none,0,rfl,⟨by simp,.inl ⟨rfl,rfl⟩⟩,hb1,fun b hb=>by simp [Value.ownBlock] at hb⟩
 | true =>
  obtain ⟨hl20,hp5⟩:=zEQ hR.out
  have HP5:=Lib.hid hp5
  clear hp5;have l0:(0:Int)≤(l.length:Int):=by omega
  have l1:(l.length:Int)≤20:=by omega
  go_enter Tryz.func13,Tryz.ntmps13
  go_wp2_with fail;refine (zF3 l A c w HA.out HS.out true hR).mono ?_
  rintro e w1 ⟨rfl,hb1⟩;have HB1:=Lib.hid hb1
  have HT1:=Lib.hid (HTW.out.below hb1)
  clear hb1
  go_upto_region 4 with (fail)
  obtain ⟨w2,hw2⟩:∃ w2,Hid (w2=w1.alloc (.cells #[.iface 24 (.pointer (some ⟨t,0,none⟩))] 82)):=⟨_,rfl⟩
  obtain ⟨wb,hwb⟩:∃ wb,Hid (w1.heap.size=wb):=⟨_,rfl⟩
  have hb2:Below w1.heap.size w1 w2:=by rw [hw2.out];exact (Below.refl _ w1).alloc (Nat.le_refl _) _
  have HX2:Hid (w2.heap[wb]? = some (.cells #[treeI t] 82 (0,0))):=by show _=_;rw [hw2.out,← hwb.out];exact heap_alloc_new w1 _
  obtain ⟨w3,hw3⟩:∃ w3,Hid (w3=w2.alloc (.cells #[.int .i64 0] 3)):=⟨_,rfl⟩
  obtain ⟨ob,hob⟩:∃ ob,Hid (w2.heap.size=ob):=⟨_,rfl⟩
  have hb3:Below w2.heap.size w2 w3:=by rw [hw3.out];exact (Below.refl _ w2).alloc (Nat.le_refl _) _
  have HO3:Hid (w3.heap[ob]? = some (.cells #[.int .i64 0] 3 (0,0))):=by show _=_;rw [hw3.out,← hob.out];exact heap_alloc_new w2 _
  have HX3:Hid (w3.heap[wb]? = some (.cells #[treeI t] 82 (0,0))):=(hb3.block _ (Array.getElem?_eq_some_iff.1 HX2.out).1).trans HX2.out
  have HB3:Hid (Below w.heap.size w w3):=HB1.out.trans ((hb2.trans (hb3.mono hb2.size)).mono HB1.out.size)
  have HOB:Hid (w.heap.size≤wb∧wb<ob∧ob<w3.heap.size):=by
   have:=HB1.out.size
   refine ⟨by rw [← hwb.out];exact this,by rw [← hob.out];exact (Array.getElem?_eq_some_iff.1 HX2.out).1,(Array.getElem?_eq_some_iff.1 HO3.out).1⟩
  have HT3:=Lib.hid (HTW.out.below HB3.out)
  clear hb2 hb3;rw [← hw2.out,hwb.out]
  go_wp2_with fail;rw [← hw3.out];refine (zKZ HT3.out).mono ?_
  rintro e w4 ⟨v,rfl,hrow,hb4,hfr⟩;obtain ⟨Ao,co,rfl,_⟩:=zAR hrow
  have hr4:intRow w4 (.slice (some ⟨ob,0,none⟩) 1 1) [0]:=by
   refine ⟨by simp,.inr ⟨ob,1,#[.int .i64 0],rfl,Nat.zero_le _,(hb4.block _ (by have:=HOB.out;omega)).trans HO3.out,by simp,by simp [maxLen],by simp,rfl⟩⟩
  have HROW4:=Lib.hid hrow
  obtain ⟨pa,pn,pc,w5,hr5,hpn,hrow5,hg5,hf5⟩:=zES hr4 Ao co hrow (by simp) (by have:=HI.out.cnt;rw [Fo.ids_len];omega)
  subst hpn;have hob5:∀ b,(Value.slice pa ([0]++f.ids).length pc).ownBlock=some b→w.heap.size≤b:=fun b hb=>by
   rcases hf5 b hb with h' | h'
   ·have h':ob=b:=Option.some.inj h';have:=HOB.out;omega
   ·have:=HB3.out.size;have:=hb4.size;omega
  have HB5:Hid (Below w.heap.size w w5):=(HB3.out.trans (hb4.mono HB3.out.size)).grown hg5 (Nat.le_trans HB3.out.size hb4.size) (fun j hj=>by
   have hj:ob=j:=Option.some.inj hj
   have:=HOB.out
   omega)
  have HX5:Hid (w5.heap[wb]? = some (.cells #[treeI t] 82 (0,0))):=(hg5.block _ (by have:=hb4.size;have:=HOB.out;omega) (fun e=>by have e:wb=ob:=Option.some.inj e;have:=HOB.out;omega)).trans ((hb4.block _ (by have:=HOB.out;omega)).trans HX3.out)
  have HR5:Hid (intRow w5 (.slice pa (0 :: f.ids).length pc) (0 :: f.ids)):=hrow5
  have HOB5:=Lib.hid hob5
  obtain ⟨n,hn⟩:∃ n,Hid ((0 :: f.ids).length=n):=⟨_,rfl⟩
  have HN:Hid (n≤1001):=by show _≤_;rw [← hn.out,List.length_cons,Fo.ids_len];have:=HI.out.cnt;omega
  clear hrow hb4 hfr hr4 hrow5 hg5 hf5 hob5;rw [show (([0]:List Int)++f.ids).length=n from hn.out] at hr5
  rw [hob.out];obtain ⟨w6,hr6,hm6,hg6⟩:=(MapS.new w5).put (id:=0) ⟨by decide,by decide⟩ (by simp)
  simp only [List.count_nil,Int.natCast_zero,Int.zero_add,List.nil_append] at hr6 hm6;obtain ⟨fb,hfb⟩:∃ fb,Hid (w5.heap.size=fb):=⟨_,rfl⟩
  have hb56:Below w5.heap.size w5 (w5.alloc (.map #[] 0)):=(Below.refl _ w5).alloc (Nat.le_refl _) _
  have hb6:Below w5.heap.size w5 w6:=hb56.grown hg6 hb56.size (fun j hj=>by have hj:w5.heap.size=j:=Option.some.inj hj;omega)
  have HB6:Hid (Below w.heap.size w w6):=HB5.out.trans (hb6.mono HB5.out.size)
  have HX6:Hid (w6.heap[wb]? = some (.cells #[treeI t] 82 (0,0))):=(hb6.block _ (Array.getElem?_eq_some_iff.1 HX5.out).1).trans HX5.out
  have HR6:Hid (intRow w6 (.slice pa n pc) (0 :: f.ids)):=by
   have:=zAC (w':=w6) HR5.out fun b hb=>hb6.block b (zAJ HR5.out hb)
   show intRow _ _ _
   rw [← hn.out];exact this
  have HM6:Hid (MapS w6 fb [0]):=by rw [← hfb.out];exact hm6
  clear hb56 hb6 hm6 hg6
  go_wp2_with (at_builtin;refine zAK _ rfl _ _ 32 rfl (.slice (some ⟨ob,0,none⟩) 1 1) (.slice Ao f.ids.length co) (by simp [Act.eval]) (by simp [Act.eval]) hr5 ?_)
  rw [hfb.out]
  go_loopw [8,32] (fun fm i wr=>∃ (k:Nat) (b:Nat) (S:List Int),i=.int .i64 (k:Int)∧k≤l.length∧fm=.map (some b)∧Hid (MapS wr b S)∧Hid (S.length≤1003002)∧Hid (∀ y∈0 :: f.ids,decide (y∈S)=foundW f (l.take k) (fun x=>decide (x=0)) y)∧Hid (Below w6.heap.size w6 wr)) (fun _ i _=>l.length-(intOf i).toNat)
  case atStart=>exact ⟨0,fb,[0],rfl,Nat.zero_le _,rfl,HM6.out,by show _≤_;simp,fun y _=>by simp [foundW],Below.refl _ _⟩
  case round =>
   obtain ⟨k,b,S,rfl,hk,rfl,hm,hSl,hfd,hbl⟩:=hrel
   have k0:(0:Int)≤(k:Int):=by omega
   have hbw:=HB6.out.trans (hbl.out.mono HB6.out.size)
   have HBW:=Lib.hid hbw
   by_cases hkl:k<l.length
   ·have k1:(k:Int)<(l.length:Int):=by omega
    obtain ⟨s,hs⟩:∃ s,Hid (l[k]? = some s):=⟨l[k],List.getElem?_eq_getElem _⟩
    obtain ⟨ad,hAd,_⟩:=HA.out (by omega)
    subst hAd;obtain ⟨had,A',c',hpa,hpc,p0,p1,p2,p3⟩:=(HA.out.below hbw).item hs.out
    obtain ⟨sb,hsb⟩:∃ sb,Hid (wr.heap.size=sb):=⟨_,rfl⟩
    obtain ⟨w7,hw7⟩:∃ w7,Hid (w7=wr.alloc (.cells #[.int .i64 s.axis,.int .i64 s.test,.string ⟨s.name.toArray⟩,.slice A' s.preds.length c'] 45)):=⟨_,rfl⟩
    obtain ⟨w8,hw8⟩:∃ w8,Hid (w8=w7.alloc (.map #[] 0)):=⟨_,rfl⟩
    obtain ⟨nb,hnb⟩:∃ nb,Hid (w7.heap.size=nb):=⟨_,rfl⟩
    have hb7:Below wr.heap.size wr w7:=by rw [hw7.out];exact (Below.refl _ wr).alloc (Nat.le_refl _) _
    have hb8:Below w7.heap.size w7 w8:=by rw [hw8.out];exact (Below.refl _ w7).alloc (Nat.le_refl _) _
    have hz7:nb=sb+1:=by rw [← hnb.out,hw7.out,← hsb.out];simp
    have HM8:Hid (MapS w8 nb []):=by rw [hw8.out,← hnb.out];exact MapS.new w7
    have hb78:Below wr.heap.size wr w8:=hb7.trans (hb8.mono hb7.size)
    have HY7:Hid (w7.heap[sb]? = some (.cells #[.int .i64 s.axis,.int .i64 s.test,.string ⟨s.name.toArray⟩,.slice A' s.preds.length c'] 45 (0,0))):=by show _=_;rw [hw7.out,← hsb.out];exact heap_alloc_new wr _
    have HY8:Hid (w8.heap[sb]? = some (.cells #[.int .i64 s.axis,.int .i64 s.test,.string ⟨s.name.toArray⟩,.slice A' s.preds.length c'] 45 (0,0))):=(hb8.block _ (by rw [hnb.out];omega)).trans HY7.out
    have hblt:b<sb:=by rw [← hsb.out];exact hm.out.lt
    have HM8':Hid (MapS w8 b S):=hm.out.keep (hb78.block _ hm.out.lt)
    have HB68:Hid (Below w6.heap.size w6 w8):=hbl.out.trans (hb78.mono hbl.out.size)
    have HB8:Hid (Below w.heap.size w w8):=HB6.out.trans (HB68.out.mono HB6.out.size)
    have hsz:w6.heap.size≤sb:=by rw [← hsb.out];exact hbl.out.size
    have hwsz:w.heap.size≤w6.heap.size:=HB6.out.size
    have HSZ:Hid (nb<w8.heap.size):=HM8.out.lt
    have HPA:Hid (PredsAt w8 w.heap.size A' s.preds):=hpa.below (by
     have h1:=hb78.mono hbw.size
     exact h1)
    have hpl:=HP5.out s (List.mem_of_getElem? hs.out)
    have HPL:=Lib.hid hpl
    have hsn:sb<nb:=by omega
    clear hbw hb7 hb8 hb78 hpa hpc hpl hz7
    go_upto_region 9 with (fail)
    rw [← hw7.out,hsb.out];clear p0 p1 p2 p3
    go_upto_region 10 with (fail)
    rw [← hw8.out,hnb.out];have n0:(0:Int)≤(n:Int):=by omega
    have n1:(n:Int)≤1001:=by have:=HN.out;omega
    go_wp2_with fail
    go_loopw [39] (fun i wv=>∃ (j:Nat),i=.int .i64 (j:Int)∧j≤n∧Hid (MapS wv nb (stepS f S s ((0 :: f.ids).take j)))∧Hid (Turn (fun b=>b=nb) w8 wv)) (fun i _=>n-(intOf i).toNat)
    case atStart=>exact ⟨0,rfl,Nat.zero_le _,HM8.out,Turn.refl _ _⟩
    case round =>
     obtain ⟨j,rfl,hj,hmj,htj⟩:=hrel
     have j0:(0:Int)≤(j:Int):=by omega
     have hne8:∀ q,q<nb→wr.heap[q]? = w8.heap[q]?:=fun q hq=>htj.out.block q (by have:=HSZ.out;omega) (by omega)
     have HNE:=Lib.hid hne8
     have HBJ:Hid (Below w.heap.size w wr):=by
      have h1:=HB8.out
      refine ⟨htj.out.os.trans h1.os,htj.out.tape.trans h1.tape,htj.out.output.trans h1.output,Nat.le_trans h1.size htj.out.size,fun q hq=>(hne8 q (by omega)).trans (h1.block q hq)⟩
     have hw6n:∀ {q:Nat} {o:Obj},w6.heap[q]? = some o→q<nb:=fun h=>by have:=(Array.getElem?_eq_some_iff.1 h).1;omega
     by_cases hjn:j<n
     ·have j1:(j:Int)<(n:Int):=by omega
      obtain ⟨x,hx⟩:∃ x,Hid ((0 :: f.ids)[j]? = some x):=⟨_,List.getElem?_eq_getElem (by rw [hn.out];exact hjn)⟩
      have hxm:x∈0 :: f.ids:=List.mem_of_getElem? hx.out
      have HXM:=Lib.hid hxm
      have hwx:=zFu HI.out hxm
      obtain ⟨g,hgA⟩:∃ g,pa=some ⟨g,0,none⟩:=by
       rcases HR6.out.2 with ⟨_,h⟩ | ⟨g,cap,cur,h,_⟩
       ·simp at h
       ·injection h with h _ _;exact ⟨g,h⟩
      subst hgA;have hrw:wr.ownsRow 0 3 1 (.slice (some ⟨g,0,none⟩) n pc) (0 :: f.ids).length ((0 :: f.ids).map (Value.int .i64)):=zAC HR6.out fun q hq=>(hne8 q (by have:=zAJ HR6.out hq;omega)).trans (HB68.out.block q (zAJ HR6.out hq))
      rw [hn.out] at hrw;have ck:=zAd hrw j (.int .i64 x) (by rw [List.getElem?_map,hx.out];rfl)
      have hlk:=(HM8'.keep (hne8 b (by omega))).look hwx
      obtain ⟨q,hq⟩:∃ q,Hid (S.count x=q):=⟨_,rfl⟩
      rw [hq.out] at hlk;have hst:=zIs (f:=f) (S:=S) (s:=s) hx.out
      have HST:=Lib.hid hst
      clear hrw hst hne8 hwx hxm;by_cases hq0:0<q
      ·have q0:(0:Int)<(q:Int):=by omega
       have hxS:x∈S:=List.count_pos_iff.1 (by rw [hq.out];exact hq0)
       have HXS:=Lib.hid hxS
       clear hxS;have f1:wr.cell? ⟨wb,0,none⟩=some (.iface 24 (.pointer (some ⟨t,0,none⟩))):=zAA ((HNE.out wb (hw6n HX6.out)).trans ((HB68.out.block wb (Array.getElem?_eq_some_iff.1 HX6.out).1).trans HX6.out)) 0 _ rfl
       have hyw:=(HNE.out sb (by omega)).trans HY8.out
       have g0:=zAA hyw 0 _ rfl
       have g1:=zAA hyw 1 _ rfl
       have g2:=zAA hyw 2 _ rfl
       have g3:=zAA hyw 3 _ rfl
       have HPW:Hid (PredsAt wr wr.heap.size A' s.preds):=(HPA.out.keep fun p hp=>by
        have:=HNE.out p.block (by omega)
        unfold World.cell?;rw [this]).more HBJ.out.size
       clear hyw
       go_wp2_with fail;refine (zKR (HTW.out.below HBJ.out) HXM.out s A' c' HPW.out (by have:=HPL.out;omega)).mono ?_
       rintro e w9 ⟨A9,c9,rfl,hr9,hb9,hf9⟩;obtain ⟨r,hrr⟩:∃ r,Hid (stepW f s x=r):=⟨_,rfl⟩
       have hrl:=zGr HI.out HXM.out s
       have HRM:Hid (∀ y∈r,y∈0 :: f.ids):=fun y hy=>zKO HI.out HXM.out s (by rw [hrr.out];exact hy)
       rw [hrr.out] at hr9 hf9 hrl ⊢;have r0:(0:Int)≤(r.length:Int):=by omega
       have r1:(r.length:Int)≤1002:=by omega
       have hst2:=HST.out
       rw [if_pos HXS.out,hrr.out] at hst2;have HST2:=Lib.hid hst2
       have hsl:=zEV HI.out S s ((0 :: f.ids).take j) fun y hy=>List.mem_of_mem_take hy
       rw [List.length_take,hn.out,Nat.min_eq_left hj] at hsl;have HSL:Hid ((stepS f S s ((0 :: f.ids).take j)).length≤1001 * 1002):=Nat.le_trans hsl (Nat.mul_le_mul_right _ (by have:=HN.out;omega))
       obtain ⟨S2,hS2⟩:∃ S2,Hid (stepS f S s ((0 :: f.ids).take j)=S2):=⟨_,rfl⟩
       have hm9:=hmj.out.keep (hb9.block nb hmj.out.lt)
       rw [hS2.out] at hm9;have hn8:w8.heap.size≤wr.heap.size:=htj.out.size
       have HT9:Hid (Turn (fun b=>b=nb) w8 w9):=⟨hb9.os.trans htj.out.os,hb9.tape.trans htj.out.tape,hb9.output.trans htj.out.output,Nat.le_trans hn8 hb9.size,fun q hq hne=>(hb9.block q (by omega)).trans (htj.out.block q hq hne)⟩
       have HM9:=Lib.hid hm9
       have HR9:=Lib.hid hr9
       have HF9:Hid (∀ b,(Value.slice A9 r.length c9).ownBlock=some b→b≠nb):=fun b hb=>by have:=hf9 b hb;have:=HSZ.out;omega
       clear f1 g0 g1 g2 g3 hr9 hb9 hf9 hst2 hsl hm9 ck hlk
       go_wp2_with fail
       go_loopw [52] (fun i wv=>∃ (m:Nat),i=.int .i64 (m:Int)∧m≤r.length∧Hid (MapS wv nb (S2++r.take m))∧Hid (Turn (fun b=>b=nb) w9 wv)) (fun i _=>r.length-(intOf i).toNat)
       case atStart=>exact ⟨0,rfl,Nat.zero_le _,by show MapS _ _ _;simpa using HM9.out,Turn.refl _ _⟩
       case round =>
        obtain ⟨m,rfl,hm2,hmm,htm⟩:=hrel
        have m0:(0:Int)≤(m:Int):=by omega
        by_cases hml:m<r.length
        ·have m1:(m:Int)<(r.length:Int):=by omega
         obtain ⟨y,hy⟩:∃ y,Hid (r[m]? = some y):=⟨r[m],List.getElem?_eq_getElem _⟩
         have hwy:=zFu HI.out (HRM.out y (List.mem_of_getElem? hy.out))
         obtain ⟨g9,hgA⟩:∃ g,A9=some ⟨g,0,none⟩:=by
          rcases HR9.out.2 with ⟨_,h⟩ | ⟨g,cap,cur,h,_⟩
          ·omega
          ·injection h with h _ _;exact ⟨g,h⟩
         subst hgA;have hr10:intRow wr (.slice (some ⟨g9,0,none⟩) r.length c9) r:=zAC HR9.out fun q hq=>htm.out.block q (zAJ HR9.out hq) (HF9.out q hq)
         have cy:=zAd hr10 m (.int .i64 y) (by rw [List.getElem?_map,hy.out];rfl)
         have hlk:=hmm.out.look hwy
         have hlen:(S2++r.take m).length≤2000000:=by
          have h1:=HSL.out
          rw [hS2.out] at h1;rw [List.length_append,List.length_take];omega
         obtain ⟨w10,hr,hmp,hgp⟩:=hmm.out.put hwy (by omega)
         have hcl:=List.count_le_length (a:=y) (l:=S2++r.take m)
         obtain ⟨z,hz⟩:∃ z,Hid ((S2++r.take m).count y=z):=⟨_,rfl⟩
         rw [hz.out] at hlk hr hcl;have z0:(0:Int)≤(z:Int):=by omega
         have z1:(z:Int)≤2000000:=by omega
         have HMP:Hid (MapS w10 nb (S2++r.take (m+1))):=by
          show MapS _ _ _
          rw [List.take_add_one,hy.out,Option.toList_some,← List.append_assoc];exact hmp
         have HTP:Hid (Turn (fun b=>b=nb) w9 w10):=⟨hgp.os.trans htm.out.os,hgp.tape.trans htm.out.tape,hgp.output.trans htm.out.output,Nat.le_trans htm.out.size hgp.size,fun q hq hne=>(hgp.block q (Nat.lt_of_lt_of_le hq htm.out.size) (fun e=>hne (Option.some.inj e))).trans (htm.out.block q hq hne)⟩
         clear hr10 hmp hgp hcl hwy
         go_wp2_with fail
         go_roundw
         case rel=>exact ⟨m+1,by go_num,by omega,HMP.out,HTP.out⟩
         case measure=>simp [intOf];omega
        ·have hmr:m=r.length:=by omega
         subst hmr;have HMF:Hid (MapS wr nb (stepS f S s ((0 :: f.ids).take (j+1)))):=by
          show MapS _ _ _
          rw [HST2.out,hS2.out];have:=hmm.out
          rw [List.take_length] at this;exact this
         have HTF:Hid (Turn (fun b=>b=nb) w8 wr):=HT9.out.trans htm.out
         go_wp2_with fail
         go_roundw
         case rel=>exact ⟨j+1,by go_num,by omega,HMF.out,HTF.out⟩
         case measure=>simp [intOf];omega
      ·have q0:¬ (0:Int)<(q:Int):=by omega
       have hxS:¬ x∈S:=fun hx'=>hq0 (by rw [← hq.out];exact List.count_pos_iff.2 hx')
       have HMF:Hid (MapS wr nb (stepS f S s ((0 :: f.ids).take (j+1)))):=by
        show MapS _ _ _
        rw [HST.out,if_neg hxS,List.append_nil];exact hmj.out
       go_wp2_with fail
       go_roundw
       case rel=>exact ⟨j+1,by go_num,by omega,HMF.out,htj.out⟩
       case measure=>simp [intOf];omega
     ·have hjm:j=n:=by omega
      subst hjm;have HMF:Hid (MapS wr nb (stepS f S s (0 :: f.ids))):=by
       have:=hmj.out
       rw [List.take_of_length_le (by rw [hn.out];omega)] at this
       exact this
      have HSF:Hid ((stepS f S s (0 :: f.ids)).length≤1003002):=by
       have h1:=zEV HI.out S s (0 :: f.ids) fun y hy=>hy
       have h2:=HN.out
       rw [hn.out] at h1;show _≤_
       omega
      have HFF:Hid (∀ y∈0 :: f.ids,decide (y∈stepS f S s (0 :: f.ids))=foundW f (l.take (k+1)) (fun x=>decide (x=0)) y):=fun y hy=>by
       rw [zHU s hfd.out y,List.take_add_one,hs.out,zEs]
       rfl
      have HBF:Hid (Below w6.heap.size w6 wr):=by
       have h1:=HB68.out
       exact ⟨htj.out.os.trans h1.os,htj.out.tape.trans h1.tape,htj.out.output.trans h1.output,Nat.le_trans h1.size htj.out.size,fun q hq=>(hne8 q (by omega)).trans (h1.block q hq)⟩
      clear hne8 hw6n
      go_wp2_with fail
      go_roundw
      case rel=>exact ⟨k+1,nb,_,by go_num,by omega,rfl,HMF.out,HSF.out,HFF.out,HBF.out⟩
      case measure=>simp [intOf];omega
   ·have hkm:k=l.length:=by omega
    subst hkm;have hfd':=hfd.out
    rw [List.take_length] at hfd';have HFD:=Lib.hid hfd'
    have hrw:intRow wr (.slice pa n pc) (0 :: f.ids):=zAC HR6.out fun q hq=>hbl.out.block q (zAJ HR6.out hq)
    have HRW:=Lib.hid hrw
    obtain ⟨g,hgA⟩:∃ g,pa=some ⟨g,0,none⟩:=by
     rcases HR6.out.2 with ⟨_,h⟩ | ⟨g,cap,cur,h,_⟩
     ·simp at h
     ·injection h with h _ _;exact ⟨g,h⟩
    subst hgA;obtain ⟨_,_,hsh,hnc,hcm,_⟩:=zAR hrw
    injection hsh with e1 e2 e3
    rw [← e3] at hnc hcm;rw [hn.out] at hnc;have n2:1≤n:=by have:=hn.out;simp at this;omega
    have n0:(1:Int)≤(n:Int):=by omega
    have n1:(n:Int)≤1001:=by have:=HN.out;omega
    have n3:(n:Int)≤(pc:Int):=by omega
    have n4:(pc:Int)≤9223372036854775807:=by unfold maxLen at hcm;omega
    clear hrw hfd' hnc hcm e1 e2 e3;obtain ⟨W0,hW0⟩:∃ W0,W0=wr:=⟨_,rfl⟩
    subst hW0;have HMS:=Lib.hid hm.out
    have HBL:=Lib.hid hbl.out
    have HSL:=Lib.hid hSl.out
    have w1':IntKind.i64.wrap ((n:Int)-1)=(n:Int)-1:=IntWalk.i64_in _ (by omega)
    clear hm hbl hSl k0 hfd
    go_wp2_with fail
    ·go_loopw [16,67] (fun o i wr=>∃ (j:Nat) (A2:Option Addr) (c2:Nat) (L2:List Int),j≤f.ids.length∧i=.int .i64 (j:Int)∧o=.slice A2 L2.length c2∧Hid (L2=(f.ids.take j).filter (fun y=>decide (y∈S)))∧Hid (intRow wr (.slice A2 L2.length c2) L2) ∧
      Hid (∀ b,(Value.slice A2 L2.length c2).ownBlock=some b→W0.heap.size≤b)∧Hid (Below W0.heap.size W0 wr)) (fun _ i _=>f.ids.length-(intOf i).toNat)
     case atStart=>exact ⟨0,none,0,[],Nat.zero_le _,rfl,rfl,rfl,⟨by simp,.inl ⟨rfl,rfl⟩⟩,fun b hb=>by simp [Value.ownBlock] at hb,Below.refl _ _⟩
     case round =>
      obtain ⟨j,A2,c2,L2,hj,rfl,rfl,hL2,hrow2,hfr2,hb7⟩:=hrel
      have j0:(0:Int)≤(j:Int):=by omega
      have hfl:f.ids.length+1=n:=by rw [← hn.out];rfl
      have HFL:=Lib.hid hfl
      have hL2l:L2.length≤1002:=by
       rw [hL2.out];have:=List.length_filter_le (fun y=>decide (y∈S)) (f.ids.take j)
       rw [List.length_take] at this;have:=HN.out
       omega
      by_cases hjn:j<f.ids.length
      ·exfalso;omega
      ·have j1:¬ (j:Int)<(n:Int)-1:=by omega
       have HFN:Hid (evalW f l=L2):=by
        show _=_
        rw [hL2.out,List.take_of_length_le (by omega)]
        unfold evalW;rw [hR.out,if_pos rfl];exact List.filter_congr fun y hy=>(HFD.out y (List.mem_cons_of_mem 0 hy)).symm
       have HWW:Hid (Below w.heap.size w wr):=HBW.out.trans (hb7.out.mono HBW.out.size)
       clear hfl
       go_wp2_with fail
       go_ret2;unfold EvalPost;rw [HFN.out,hR.out];exact ⟨A2,c2,rfl,hrow2.out,HWW.out,fun b hb=>Nat.le_trans HBW.out.size (hfr2.out b hb)⟩
    ·go_loopw [16,67] (fun o i wr=>∃ (j:Nat) (A2:Option Addr) (c2:Nat) (L2:List Int),j≤f.ids.length∧i=.int .i64 (j:Int)∧o=.slice A2 L2.length c2∧Hid (L2=(f.ids.take j).filter (fun y=>decide (y∈S)))∧Hid (intRow wr (.slice A2 L2.length c2) L2) ∧
      Hid (∀ b,(Value.slice A2 L2.length c2).ownBlock=some b→W0.heap.size≤b)∧Hid (Below W0.heap.size W0 wr)) (fun _ i _=>f.ids.length-(intOf i).toNat)
     case atStart=>exact ⟨0,none,0,[],Nat.zero_le _,rfl,rfl,rfl,⟨by simp,.inl ⟨rfl,rfl⟩⟩,fun b hb=>by simp [Value.ownBlock] at hb,Below.refl _ _⟩
     case round =>
      obtain ⟨j,A2,c2,L2,hj,rfl,rfl,hL2,hrow2,hfr2,hb7⟩:=hrel
      have j0:(0:Int)≤(j:Int):=by omega
      have hfl:f.ids.length+1=n:=by rw [← hn.out];rfl
      have HFL:=Lib.hid hfl
      have hL2l:L2.length≤1002:=by
       rw [hL2.out];have:=List.length_filter_le (fun y=>decide (y∈S)) (f.ids.take j)
       rw [List.length_take] at this;have:=HN.out
       omega
      by_cases hjn:j<f.ids.length
      ·have j1:(j:Int)<(n:Int)-1:=by omega
       obtain ⟨y,hy⟩:∃ y,Hid (f.ids[j]? = some y):=⟨f.ids[j],List.getElem?_eq_getElem _⟩
       have hwy:=zFu HI.out (List.mem_cons_of_mem 0 (List.mem_of_getElem? hy.out))
       have hrw:wr.ownsRow 0 3 1 _ (0 :: f.ids).length ((0 :: f.ids).map (Value.int .i64)):=zAC HRW.out fun q hq=>hb7.out.block q (zAJ HRW.out hq)
       rw [hn.out] at hrw;have ck:=zAd hrw (j+1) (.int .i64 y) (by rw [List.getElem?_map,List.getElem?_cons_succ,hy.out];rfl)
       have ck2:=ck
       rw [Nat.add_comm] at ck2;have hlk:=(HMS.out.keep (hb7.out.block b HMS.out.lt)).look hwy
       obtain ⟨q,hq⟩:∃ q,Hid (S.count y=q):=⟨_,rfl⟩
       rw [hq.out] at hlk;have hsn:(f.ids.take (j+1)).filter (fun y=>decide (y∈S))=L2++if y∈S then [y] else []:=by
        rw [List.take_add_one,hy.out,List.filter_append,← hL2.out,Option.toList_some];by_cases e:y∈S <;> simp [e]
       have HSN:=Lib.hid hsn
       clear hrw hwy hsn hfl;by_cases hq0:0<q
       ·have q0:(0:Int)<(q:Int):=by omega
        have hyS:y∈S:=List.count_pos_iff.1 (by rw [hq.out];exact hq0)
        have HNW:Hid (L2++[y]=(f.ids.take (j+1)).filter (fun y=>decide (y∈S))):=by
         have:=HSN.out
         rw [if_pos hyS] at this;exact this.symm
        obtain ⟨pa,pn,pc,w9,hr9,hpn,hrow9,hg9,hf9⟩:=zAk hrow2.out (by omega) y
        subst hpn;have HB9:Hid (Below W0.heap.size W0 w9):=⟨hg9.os.trans hb7.out.os,hg9.tape.trans hb7.out.tape,hg9.output.trans hb7.out.output,Nat.le_trans hb7.out.size hg9.size,fun b hb=>(hg9.block b (Nat.lt_of_lt_of_le hb hb7.out.size) (fun h'=>by have:=hfr2.out b h'.symm;omega)).trans (hb7.out.block b hb)⟩
        have hfr9:∀ b,(Value.slice pa (L2.length+1) pc).ownBlock=some b→W0.heap.size≤b:=fun b hb=>by
         rcases hf9 b hb with h' | h'
         ·exact hfr2.out b h'
         ·have:=hb7.out.size;omega
        have HR9:=Lib.hid hrow9
        have HF9:=Lib.hid hfr9
        clear hrow9 hg9 hf9 hfr9 hyS
        go_wp2_with (at_builtin;refine zAK _ rfl _ _ 32 rfl (.slice A2 L2.length c2) (.slice (some ⟨wr.heap.size,0,none⟩) 1 1) (by simp [Act.eval]) (by simp [Act.eval]) hr9 ?_)
        go_roundw
        case rel=>exact ⟨j+1,pa,pc,L2++[y],by omega,by go_num,by simp,HNW.out,by show intRow _ _ _;simpa using HR9.out,by show ∀ b,_;simpa using HF9.out,HB9.out⟩
        case measure=>simp [intOf];omega
       ·have q0:¬ (0:Int)<(q:Int):=by omega
        have hyS:¬ y∈S:=fun h'=>hq0 (by rw [← hq.out];exact List.count_pos_iff.2 h')
        have HNW:Hid (L2=(f.ids.take (j+1)).filter (fun y=>decide (y∈S))):=by
         have:=HSN.out
         rw [if_neg hyS,List.append_nil] at this;exact this.symm
        clear hyS
        go_wp2_with fail
        go_roundw
        case rel=>exact ⟨j+1,A2,c2,L2,by omega,by go_num,rfl,HNW.out,hrow2.out,hfr2.out,hb7.out⟩
        case measure=>simp [intOf];omega
      ·have j1:¬ (j:Int)<(n:Int)-1:=by omega
       have HFN:Hid (evalW f l=L2):=by
        show _=_
        rw [hL2.out,List.take_of_length_le (by omega)]
        unfold evalW;rw [hR.out,if_pos rfl];exact List.filter_congr fun y hy=>(HFD.out y (List.mem_cons_of_mem 0 hy)).symm
       have HWW:Hid (Below w.heap.size w wr):=HBW.out.trans (hb7.out.mono HBW.out.size)
       clear hfl
       go_wp2_with fail
       go_ret2;unfold EvalPost;rw [HFN.out,hR.out];exact ⟨A2,c2,rfl,hrow2.out,HWW.out,fun b hb=>Nat.le_trans HBW.out.size (hfr2.out b hb)⟩
end
end
section
theorem zGs (v:Bool):∀ (f:Nat) (l:List UInt8),(undoF v f l).1.length≤4 * l.length
 | 0,_=>by simp [undoF]
 | f+1,l=>by
  rw [undoF]
  split
  ·simp
  ·cases hs:stepL v l with
   | inl e=>simp
   | inr q =>
    obtain ⟨t,n⟩:=q
    obtain ⟨h1,h2,h3⟩:=zCH hs
    have ih:=zGs v f (l.drop n)
    rw [List.length_drop] at ih;simp only
    split
    ·simp only [List.length_append];omega
    ·simp
theorem zE7 {l s:List UInt8} {n:Nat} (h:qvalue l=.ok s n):s.length≤4 * l.length:=by
 unfold qvalue at h
 split at h
 ·cases h
 simp only at h
 split at h
 ·cases h
 split at h
 ·cases h
 injection h with h _
 subst h;have h1:=zGs true ((l.drop 1).takeWhile (· != 34)).length ((l.drop 1).takeWhile (· != 34))
 have h2:=zA5 (· != 34) (l.drop 1)
 rw [List.length_drop] at h2;show (undoF true _ _).1.length≤_
 omega
theorem zJ5 {l:List UInt8} {p:PredD} {n:Nat} (h:qattr l=.ok p n):p.value.length≤4 * l.length:=by
 unfold qattr at h
 split at h
 ·cases h
 split at h
 ·injection h with h _;subst h;simp
 ·split at h
  ·cases h
  rename_i v k hv
  have h1:=zE7 hv
  rw [List.length_drop] at h1
  injection h with h _
  subst h;show v.length≤_
  omega
theorem zJ7 {l:List UInt8} {p:PredD} {n:Nat} (h:qpred l=.ok p n):p.value.length≤4 * l.length:=by
 unfold qpred at h
 split at h
 ·obtain ⟨m,h1,_⟩:=zDL h
  have:=zJ5 h1
  rw [List.length_drop] at this;omega
 split at h
 ·injection h with h _;subst h;simp
 split at h
 ·split at h
  ·cases h
  split at h
  ·cases h
  rename_i v k hv
  have h1:=zE7 hv
  rw [List.length_drop] at h1
  injection h with h _
  subst h;show v.length≤_
  omega
 ·split at h
  ·cases h
  ·injection h with h _;subst h;simp
theorem zEI (N:Nat):∀ (f:Nat) (l:List UInt8) (ps qs:List PredD) (n:Nat),4 * l.length≤N→qpredsF f l ps=.ok qs n→(∀ p∈ps,p.value.length≤N) → ∀ p∈qs,p.value.length≤N
 | 0,_,_,_,_,_,h,_=>by cases h
 | f+1,l,ps,qs,n,hN,h,hp=>by
  rw [qpredsF] at h
  split at h
  ·injection h with h _;subst h;exact hp
  split at h
  ·cases h
  split at h
  ·cases h
  rename_i p k hq
  split at h
  ·cases h
  obtain ⟨m,h1,_⟩:=zDL h
  refine zEI N f _ _ _ _ (by rw [List.length_drop];omega) h1 (fun x hx=>?_)
  rcases List.mem_append.1 hx with hx | hx
  ·exact hp x hx
  ·simp at hx;subst hx
   have:=zJ7 hq
   rw [List.length_drop] at this;omega
theorem zJ8 {l:List UInt8} {s:StepD} {n:Nat} (h:qstep l=.ok s n):∀ p∈s.preds,p.value.length≤4 * l.length:=by
 unfold qstep at h
 split at h
 ·injection h with h _;subst h;intro p hp;cases hp
 split at h
 ·injection h with h _;subst h;intro p hp;cases hp
 simp only at h
 split at h
 ·cases h
 split at h
 ·cases h
 rename_i ps k hps
 injection h with h _
 subst h;exact zEI (4 * l.length) _ _ _ _ _ (by rw [List.length_drop];omega) hps (fun _ h=>by cases h)
theorem zLB (N:Nat) {l:List UInt8} {ls ls':List StepD} {n:Nat} (hN:4 * l.length≤N) (h:qone l ls=.ok ls' n) (hp:∀ s∈ls,∀ p∈s.preds,p.value.length≤N):∀ s∈ls',∀ p∈s.preds,p.value.length≤N:=by
 obtain ⟨ms,s,k,m,rfl,_,hs,hm⟩:=zE5 h
 intro x hx;rcases List.mem_append.1 hx with hx | hx
 ·rcases hm with rfl | rfl
  ·exact hp x hx
  ·rcases List.mem_append.1 hx with hx | hx
   ·exact hp x hx
   ·simp at hx;subst hx;intro p hp';cases hp'
 ·simp at hx;subst hx
  intro p hp';have:=zJ8 hs p hp'
  rw [List.length_drop] at this;omega
theorem zGh (N:Nat):∀ (f:Nat) (l:List UInt8) (ls ls':List StepD) (n:Nat),4 * l.length≤N→qallF f l ls=.ok ls' n→(∀ s∈ls,∀ p∈s.preds,p.value.length≤N) → ∀ s∈ls',∀ p∈s.preds,p.value.length≤N
 | 0,_,_,_,_,_,h,_=>by cases h
 | f+1,l,ls,ls',n,hN,h,hp=>by
  rw [qallF] at h;cases hq:qone l ls with
  | bad k e=>rw [hq] at h;cases h
  | ok ms k =>
   rw [hq] at h;simp only at h
   have h1:=zLB N hN hq hp
   split at h
   ·injection h with h _;subst h;exact h1
   ·obtain ⟨m,h2,_⟩:=zDL h
    exact zGh N f _ _ _ _ (by rw [List.length_drop];omega) h2 h1
theorem zDW {l:List UInt8} (h:(queryL l).2.2=0):SmallSteps (queryL l).1:=by
 obtain ⟨hl,n,hq⟩:=zLE h
 obtain ⟨hr,_⟩:=zEN h
 have hv:=zGh 800 _ _ _ _ _ (by omega) hq (fun _ h=>by cases h)
 unfold rightL at hr;simp only [Bool.and_eq_true,decide_eq_true_eq,List.all_eq_true] at hr;obtain ⟨hs,_,h20⟩:=hr
 have hname:∀ {s:List UInt8},nameL s=true→s.length≤60:=fun h=>zJs h
 have hpred:∀ s∈(queryL l).1,∀ p∈s.preds,p.name.length≤60∧p.value.length≤800:=fun s hsm p hp=>by
  refine ⟨?_,hv s hsm p hp⟩
  have h1:=hs s hsm
  unfold stepB at h1;simp only [Bool.and_eq_true,List.all_eq_true] at h1;have h2:=h1.2 p hp
  unfold predB at h2
  split at h2
  ·simp only [Bool.and_eq_true,decide_eq_true_eq] at h2;rw [h2.2.1];simp
  split at h2
  ·simp only [decide_eq_true_eq] at h2;rw [h2.2.1];simp
  split at h2
  ·simp only [Bool.and_eq_true] at h2;exact hname h2.1
  split at h2
  ·simp only [Bool.and_eq_true] at h2;exact hname h2.1
  split at h2
  ·simp only [Bool.and_eq_true,decide_eq_true_eq] at h2;rw [h2.2.2];simp
  ·cases h2
 have hstep:∀ s∈(queryL l).1,s.name.length≤60∧s.preds.length≤5:=fun s hsm=>by
  have h1:=hs s hsm
  unfold stepB at h1;simp only [Bool.and_eq_true,decide_eq_true_eq] at h1;refine ⟨?_,h1.1.2⟩
  have h2:=h1.1.1.2
  split at h2
  ·exact hname h2
  ·have:s.name=[]:=by simpa using h2
   rw [this];simp
 exact ⟨by omega,fun s hsm=>⟨by have:=(hstep s hsm).1;omega,by have:=(hstep s hsm).2;omega,fun p hp=>⟨by have:=(hpred s hsm p hp).1;omega,by have:=(hpred s hsm p hp).2;omega⟩⟩⟩
end
section
open Go.RowKit Go.Shelf
def findW (f:Fo) (R:List StepD × Nat × Int):List Int:=if R.2.2=0 then evalW f R.1 else []
section
variable {M:Nat→Prop} {t:Nat} {f:Fo} {next:Int} {w w':World}
def FindPost (w:World) (f:Fo) (R:List StepD × Nat × Int) (e:Ending) (w':World):Prop :=
 ∃ A c,e=.returned (.tuple #[.slice A (findW f R).length c,.int .i64 R.2.1,.int .i64 R.2.2])∧intRow w' (.slice A (findW f R).length c) (findW f R)∧Below w.heap.size w w' ∧ ∀ b,(Value.slice A (findW f R).length c).ownBlock=some b→w.heap.size≤b
theorem zFG (h:TreeM M t f next w) (q:ByteArray) (hq:q.size≤maxLen) (R:List StepD × Nat × Int) (hR:Hid (queryL q.data.toList=R)) :
  Calls Tryz.prog 16 #[treeI t,.string q] w (FindPost w f R):=by
 have HTW:=Lib.hid h
 have HQ:=Lib.hid hq
 unfold treeI;clear h hq
 go_enter Tryz.func16,Tryz.ntmps16
 go_wp2_with fail;refine (zI1 q w HQ.out R hR).mono ?_
 rintro e w1 ⟨hb1,hp1⟩;obtain ⟨l,k,c⟩:=R
 have HB1:=Lib.hid hb1
 rcases hp1 with ⟨h0,A,c1,S,rfl,hs1,hsp1,hm1⟩ | ⟨h0,rfl⟩
 ·have h0':c=0:=h0
  have hz:(queryL q.data.toList).2.2=0:=by rw [hR.out];exact h0
  obtain ⟨hr1,hr2⟩:=zEN hz
  have hsm:=zDW hz
  have hk0:k=0:=by rw [hR.out] at hr2;exact hr2
  rw [hR.out] at hr1 hsm;have hat:=StepsOwn.at hs1 hsp1
  have hlen:S.length=l.length:=by rw [← show S.map (·.1)=l from hm1,List.length_map]
  rw [show S.map (·.1)=l from hm1] at hat
  subst h0';subst hk0;rw [hlen];have HAT:=Lib.hid hat
  have HSM:=Lib.hid hsm
  have HF:Hid (findW f (l,0,0)=evalW f l):=if_pos rfl
  clear hb1 h0 hs1 hsp1 hm1 hz hr1 hr2 hsm hat hlen
  go_wp2_with fail;refine (zKV (HTW.out.below HB1.out) l A c1 HAT.out HSM.out).mono ?_
  rintro e w2 ⟨A2,c2,rfl,hr2,hb2,hf2⟩;have HR2:=Lib.hid hr2
  have HB2:=Lib.hid (HB1.out.trans (hb2.mono HB1.out.size))
  have HF2:Hid (∀ b,(Value.slice A2 (evalW f l).length c2).ownBlock=some b→w.heap.size≤b):=fun b hb=>Nat.le_trans HB1.out.size (hf2 b hb)
  clear hr2 hb2 hf2
  go_wp2_with fail
  go_ret3;unfold FindPost;rw [HF.out];exact ⟨A2,c2,rfl,HR2.out,HB2.out,HF2.out⟩
 ·have h0':c≠0:=h0
  have hb:(c != 0)=true:=by simpa using h0'
  have HF:Hid (findW f (l,k,c)=[]):=if_neg h0'
  clear hb1 h0 h0'
  go_wp2_with fail
  go_ret3;unfold FindPost;rw [HF.out];exact ⟨none,0,rfl,⟨by simp,.inl ⟨rfl,rfl⟩⟩,HB1.out,fun b hb=>by simp [Value.ownBlock] at hb⟩
end
end
section
def rowsL (L:List RowD):List RowD:=⟨0,⟨-1,0,[],[],[]⟩⟩ :: L
def lastX (lv:Int):List RowD→Option Nat
 | []=>none
 | r :: l=>match lastX lv l with
  | some j=>some (j+1)
  | none=>if r.x.level=lv then some 0 else none
def upI (L:List RowD) (k:Nat):Int:=match lastX (lvlL L k-1) (L.take k) with
 | some j=>(j:Int)
 | none=>-1
def belB (L:List RowD) (k:Int):Nat→Int→Bool
 | 0,i=>decide (i=k)
 | n+1,i=>if k<i then belB L k n (upI L i.toNat) else decide (i=k)
def isBelL (L:List RowD) (i k:Nat):Bool:=belB L (k:Int) (L.length+1) (i:Int)
def leadsN (L:List RowD) (axis:Int) (k i:Nat):Bool :=
 if axis=1 then decide (k<i) && decide (upI L i=(k:Int)) else if axis=2 then decide (k<i) && isBelL L i k else if axis=3 then decide (k≤i) && isBelL L i k
 else if axis=4 then decide (upI L k=(i:Int)) else if axis=5 then decide (i<k) && isBelL L k i
 else if axis=6 then decide (0<k) && decide (k<i) && decide (upI L i=upI L k) else if axis=7 then decide (0<k) && decide (0<i) && decide (i<k) && decide (upI L i=upI L k)
 else decide (i=k)
def dL (L:List RowD) (i:Nat):NodeD:=match L[i]? with
 | some r=>r.x.node
 | none=>topD
def idL (L:List RowD) (i:Nat):Int:=match L[i]? with
 | some r=>r.id
 | none=>0
def testR (s:StepD) (n:NodeD):Bool :=
 if s.test=1 then decide (n.kind=1) && decide (n.name=s.name) else decide (s.test=4) || (decide (s.test=2) && decide (n.kind=1)) || (decide (s.test=3) && decide (n.kind=2))
def saysN (L:List RowD) (k:Nat) (text:List UInt8):Bool:=(List.range L.length).any fun i=>leadsN L 1 k i && decide ((dL L i).kind=2) && decide ((dL L i).text=text)
def keptN (L:List RowD) (p:PredD) (k n many:Nat):Bool :=
 if p.kind=1 then decide ((n:Int)+1=p.num) else if p.kind=2 then decide ((n:Int)=(many:Int)-1) else if p.kind=5 then saysN L k p.value else (dL L k).attrs.any (hasW p)
def leftN (L:List RowD) (p:PredD) (many:Nat):Nat→List Nat→List Nat
 | _,[]=>[]
 | n,x :: l=>if keptN L p x n many then x :: leftN L p many (n+1) l else leftN L p many (n+1) l
def predsN (L:List RowD):List PredD→List Nat→List Nat
 | [],l=>l
 | p :: ps,l=>predsN L ps (leftN L p l.length 0 l)
def ordN (axis:Int) (N:Nat):List Nat:=if axis=5∨axis=7 then (List.range N).reverse else List.range N
def stepN (L:List RowD) (s:StepD) (k:Nat):List Nat:=predsN L s.preds ((ordN s.axis L.length).filter fun n=>leadsN L s.axis k n && testR s (dL L n))
def joinN:List Nat→List Nat→List Nat
 | l,[]=>l
 | l,x :: r=>joinN (if x∈l then l else l++[x]) r
def nextN (L:List RowD) (s:StepD):List Nat→List Nat→List Nat
 | acc,[]=>acc
 | acc,k :: r=>nextN L s (joinN acc (stepN L s k)) r
def foundN (L:List RowD):List StepD→List Nat→List Nat
 | [],F=>F
 | s :: r,F=>foundN L r (nextN L s [] F)
def outN (L:List RowD) (F:List Nat):List Int:=((List.range' 1 (L.length-1)).filter fun i=>decide (i∈F)).map (idL L)
def evalN (L:List RowD) (l:List StepD):List Int:=if rightL l then outN (rowsL L) (foundN (rowsL L) l [0]) else []
/-! ## Lists -/
theorem zBM {α:Type} [DecidableEq α]:∀ (l m:List α),l.Sublist m→m.Nodup→m.filter (fun x=>decide (x∈l))=l
 | l,[],h,_=>by cases h;rfl
 | l,a :: m,h,hn=>by
  have hn':=List.nodup_cons.1 hn
  cases h with
  | cons _ h =>
   have ha:a ∉ l:=fun h'=>hn'.1 (h.subset h')
   rw [List.filter_cons_of_neg (by simpa using ha)]
   exact zBM l m h hn'.2
  | cons_cons _ h =>
   rename_i l'
   rw [List.filter_cons_of_pos (by simp)]
   congr 1
   rw [← zBM l' m h hn'.2];refine List.filter_congr fun x hx=>?_
   have hxa:x≠a:=fun e=>hn'.1 (e ▸ hx)
   rw [zBM l' m h hn'.2];simp [hxa]
theorem zBy {α:Type} (l:List α) (d:α) (p:Nat→Bool) (q:α→Bool) (h:∀ i x,l[i]? = some x→p i=q x):((List.range l.length).filter p).map (fun i=>l[i]?.getD d)=l.filter q:=by
 have h1:l=(List.range l.length).map (fun i=>l[i]?.getD d):=by
  refine List.ext_getElem? fun i=>?_
  by_cases hi:i<l.length
  ·simp [hi]
  ·rw [List.getElem?_eq_none (by omega),List.getElem?_eq_none (by simp;omega)]
 conv=>rhs;rw [h1]
 rw [List.filter_map]
 congr 1
 refine List.filter_congr fun i hi=>?_
 have hi':=List.mem_range.1 hi
 rw [Function.comp_apply,List.getElem?_eq_getElem hi'];exact h i _ (List.getElem?_eq_getElem hi')
theorem zD3 (lv:Int):∀ (A B:List RowD),lastX lv (A++B)=match lastX lv B with
  | some j=>some (A.length+j)
  | none=>lastX lv A
 | [],B=>by cases h:lastX lv B <;> simp [lastX,h]
 | a :: A,B=>by
  rw [List.cons_append,lastX,zD3 lv A B];cases h:lastX lv B with
  | none=>simp [lastX]
  | some j=>simp only [List.length_cons];congr 1;omega
theorem zCK (lv:Int):∀ (A:List RowD),(∀ r∈A,r.x.level≠lv)→lastX lv A=none
 | [],_=>rfl
 | a :: A,h=>by rw [lastX,zCK lv A fun r hr=>h r (List.mem_cons_of_mem _ hr)];simp [h a List.mem_cons_self]
theorem zFa (lv:Int):∀ (A:List RowD) (j:Nat),lastX lv A=some j→j<A.length
 | [],j,h=>by simp [lastX] at h
 | a :: A,j,h=>by
  rw [lastX] at h;cases h':lastX lv A with
  | none =>
   rw [h'] at h;simp only [] at h
   split at h
   ·injection h with h;subst h;simp
   ·cases h
  | some j' =>
   rw [h'] at h;have:=zFa lv A j' h'
   simp at h;subst h;simp;omega
end
section
namespace Fo
theorem up_at:∀ (F:Fo) (q lv:Int) (i:Nat) (r:RowD),F.ids.Nodup→(F.flat lv)[i]? = some r →
  ∃ e,F.ent q r.id=some e∧r.x=e.d.at r.x.level∧lv≤r.x.level∧((lastX (r.x.level-1) ((F.flat lv).take i)=none∧e.par=q∧r.x.level=lv) ∨ ∃ j,lastX (r.x.level-1) ((F.flat lv).take i)=some j∧F.ids[j]? = some e.par)
 | nil,_,_,_,_,_,h=>by simp [flat] at h
 | cons id d ks r0,q,lv,i,r,hn,h=>by
  simp only [ids,List.nodup_cons,List.nodup_append,List.mem_append,not_or] at hn;obtain ⟨⟨hk,hr⟩,nk,nr,hd⟩:=hn
  rw [flat] at h ⊢;cases i with
  | zero =>
   simp at h
   subst h;exact ⟨⟨q,d,ks.roots⟩,by rw [ent,if_pos rfl],rfl,Int.le_refl _,.inl ⟨rfl,rfl,rfl⟩⟩
  | succ i =>
   rw [List.getElem?_cons_succ] at h;rw [List.take_succ_cons,ids];by_cases hi:i<(ks.flat (lv+1)).length
   ·rw [List.getElem?_append_left hi] at h
    obtain ⟨e,h1,h2,h3,h4⟩:=up_at ks id (lv+1) i r nk h
    have hm:=ent_mem ks id r.id e h1
    rw [List.take_append_of_le_length (Nat.le_of_lt hi),lastX];refine ⟨e,by rw [ent,if_neg (fun e'=>hk (by rw [← e'];exact hm)),h1],h2,by omega,.inr ?_⟩
    rcases h4 with ⟨g1,g2,g3⟩ | ⟨j,g1,g2⟩
    ·rw [g1]
     exact ⟨0,if_pos (by show lv=_;omega),by rw [g2];rfl⟩
    ·rw [g1]
     refine ⟨j+1,rfl,?_⟩
     rw [List.getElem?_cons_succ,List.getElem?_append_left (List.getElem?_eq_some_iff.1 g2).1];exact g2
   ·rw [List.getElem?_append_right (by omega)] at h
    obtain ⟨e,h1,h2,h3,h4⟩:=up_at r0 q lv (i-(ks.flat (lv+1)).length) r nr h
    have hm:=ent_mem r0 q r.id e h1
    have ht:(ks.flat (lv+1)++r0.flat lv).take i=ks.flat (lv+1)++(r0.flat lv).take (i-(ks.flat (lv+1)).length):=by
     rw [List.take_append,List.take_of_length_le (by omega)]
    rw [ht,lastX,zD3];refine ⟨e,by rw [ent,if_neg (fun e'=>hr (by rw [← e'];exact hm)),ent_not ks id _ (fun h'=>hd _ h' _ hm rfl)];exact h1,h2,h3,?_⟩
    rcases h4 with ⟨g1,g2,g3⟩ | ⟨j,g1,g2⟩
    ·rw [g1,zCK _ _ (fun z hz=>by have:=flat_ge ks (lv+1) z hz;omega)]
     exact .inl ⟨if_neg (by show ¬ lv=_;omega),g2,g3⟩
    ·rw [g1]
     refine .inr ⟨(ks.flat (lv+1)).length+j+1,rfl,?_⟩
     rw [List.getElem?_cons_succ,flat_len,← ids_len,List.getElem?_append_right (by omega),Nat.add_sub_cancel_left]
     exact g2
theorem par_filter:∀ (F:Fo) (q x:Int),F.ids.Nodup→q ∉ F.ids→F.ids.filter (fun y=>(F.ent q y).any fun e=>decide (e.par=x))=if x=q then F.roots else match F.ent q x with
  | some e=>e.kids
  | none=>[]
 | nil,q,x,_,_=>by by_cases h:x=q <;> simp [ids,roots,ent,h]
 | cons id d ks r,q,x,hn,hq=>by
  simp only [ids,List.nodup_cons,List.nodup_append,List.mem_append,not_or] at hn;obtain ⟨⟨hk,hr⟩,nk,nr,hd⟩:=hn
  simp only [ids,List.mem_cons,List.mem_append,not_or] at hq;obtain ⟨hq1,hq2,hq3⟩:=hq
  have ek:ks.ids.filter (fun y=>((cons id d ks r).ent q y).any fun e=>decide (e.par=x))=ks.ids.filter (fun y=>(ks.ent id y).any fun e=>decide (e.par=x)):=by
   refine List.filter_congr fun y hy=>?_
   obtain ⟨e,he⟩:=ent_some ks id y hy
   rw [ent,if_neg (fun e'=>hk (by rw [← e'];exact hy)),he]
  have er:r.ids.filter (fun y=>((cons id d ks r).ent q y).any fun e=>decide (e.par=x))=r.ids.filter (fun y=>(r.ent q y).any fun e=>decide (e.par=x)):=by
   refine List.filter_congr fun y hy=>?_
   rw [ent,if_neg (fun e'=>hr (by rw [← e'];exact hy)),ent_not ks id y (fun h'=>hd _ h' _ hy rfl)]
  have e0:((cons id d ks r).ent q id).any (fun e=>decide (e.par=x))=decide (q=x):=by rw [ent,if_pos rfl];rfl
  rw [ids,List.filter_cons,List.filter_append,ek,er,e0,par_filter ks id x nk hk,par_filter r q x nr hq3];by_cases h1:x=q
  ·subst h1
   rw [if_pos (decide_eq_true rfl),if_neg hq1,if_pos rfl,if_pos rfl,ent_not ks id x hq2]
   rfl
  ·rw [if_neg (by simpa using fun e=>h1 e.symm),if_neg h1,if_neg h1,ent]
   by_cases h2:x=id
   ·subst h2
    rw [if_pos rfl,if_pos rfl,ent_not r q x hr];simp
   ·rw [if_neg h2,if_neg h2]
    cases hks:ks.ent id x with
    | some e =>
     have hx:=ent_mem ks id x e hks
     rw [ent_not r q x (fun h'=>hd _ hx _ h' rfl)]
     simp
    | none=>simp
theorem path_filter:∀ (F:Fo) (x:Int),F.ids.Nodup→x∈F.ids→F.ids.filter (fun y=>decide (x∈F.path y))=(F.beneath x).ids∧F.ids.filter (fun y=>decide (y=x∨x∈F.path y))=x :: (F.beneath x).ids
 | nil,_,_,h=>by simp [ids] at h
 | cons id d ks r,x,hn,hx=>by
  simp only [ids,List.nodup_cons,List.nodup_append,List.mem_append,not_or] at hn;obtain ⟨⟨hk,hr⟩,nk,nr,hd⟩:=hn
  have pk:∀ y∈ks.ids,(cons id d ks r).path y=ks.path y++[id]:=fun y hy=>by rw [path,if_neg (fun e=>hk (by rw [← e];exact hy)),if_pos hy]
  have pr:∀ y∈r.ids,(cons id d ks r).path y=r.path y:=fun y hy=>by rw [path,if_neg (fun e=>hr (by rw [← e];exact hy)),if_neg (fun h'=>hd _ h' _ hy rfl)]
  have p0:(cons id d ks r).path id=[]:=by rw [path,if_pos rfl]
  rw [ids,List.filter_cons,List.filter_append,List.filter_cons,List.filter_append,p0,beneath];by_cases h1:x=id
  ·subst h1
   have k1:ks.ids.filter (fun y=>decide (x∈(cons x d ks r).path y))=ks.ids:=List.filter_eq_self.2 fun y hy=>by rw [pk y hy];simp
   have k2:ks.ids.filter (fun y=>decide (y=x∨x∈(cons x d ks r).path y))=ks.ids:=List.filter_eq_self.2 fun y hy=>by rw [pk y hy];simp
   have r1:r.ids.filter (fun y=>decide (x∈(cons x d ks r).path y))=[]:=List.filter_eq_nil_iff.2 fun y hy=>by
    rw [pr y hy];simpa using fun h=>hr (path_ids r y x h)
   have r2:r.ids.filter (fun y=>decide (y=x∨x∈(cons x d ks r).path y))=[]:=List.filter_eq_nil_iff.2 fun y hy=>by
    rw [pr y hy];have:y≠x:=fun e=>hr (by rw [← e];exact hy)
    simpa [this] using fun h=>hr (path_ids r y x h)
   rw [k1,k2,r1,r2,if_pos rfl];simp
  ·rw [if_neg h1]
   have hx':x∈ks.ids∨x∈r.ids:=by simpa [ids,h1] using hx
   have n0:¬ (decide (x∈([]:List Int))=true):=by simp
   have n1:¬ (decide (id=x∨x∈([]:List Int))=true):=by simpa using fun e=>h1 e.symm
   rw [if_neg n0,if_neg n1];by_cases h2:x∈ks.ids
   ·have hxr:x ∉ r.ids:=fun h'=>hd _ h2 _ h' rfl
    obtain ⟨i1,i2⟩:=path_filter ks x nk h2
    have k1:ks.ids.filter (fun y=>decide (x∈(cons id d ks r).path y))=ks.ids.filter (fun y=>decide (x∈ks.path y)):=List.filter_congr fun y hy=>by rw [pk y hy];simp [h1]
    have k2:ks.ids.filter (fun y=>decide (y=x∨x∈(cons id d ks r).path y))=ks.ids.filter (fun y=>decide (y=x∨x∈ks.path y)):=List.filter_congr fun y hy=>by rw [pk y hy];simp [h1]
    have r1:r.ids.filter (fun y=>decide (x∈(cons id d ks r).path y))=[]:=List.filter_eq_nil_iff.2 fun y hy=>by
     rw [pr y hy];simpa using fun h=>hxr (path_ids r y x h)
    have r2:r.ids.filter (fun y=>decide (y=x∨x∈(cons id d ks r).path y))=[]:=List.filter_eq_nil_iff.2 fun y hy=>by
     rw [pr y hy];have:y≠x:=fun e=>hxr (by rw [← e];exact hy)
     simpa [this] using fun h=>hxr (path_ids r y x h)
    rw [k1,k2,r1,r2,i1,i2,if_pos h2];simp
   ·have hxr:x∈r.ids:=hx'.resolve_left h2
    obtain ⟨i1,i2⟩:=path_filter r x nr hxr
    have r1:r.ids.filter (fun y=>decide (x∈(cons id d ks r).path y))=r.ids.filter (fun y=>decide (x∈r.path y)):=List.filter_congr fun y hy=>by rw [pr y hy]
    have r2:r.ids.filter (fun y=>decide (y=x∨x∈(cons id d ks r).path y))=r.ids.filter (fun y=>decide (y=x∨x∈r.path y)):=List.filter_congr fun y hy=>by rw [pr y hy]
    have k1:ks.ids.filter (fun y=>decide (x∈(cons id d ks r).path y))=[]:=List.filter_eq_nil_iff.2 fun y hy=>by
     rw [pk y hy];simpa [h1] using fun h=>h2 (path_ids ks y x h)
    have k2:ks.ids.filter (fun y=>decide (y=x∨x∈(cons id d ks r).path y))=[]:=List.filter_eq_nil_iff.2 fun y hy=>by
     rw [pk y hy];have:y≠x:=fun e=>h2 (by rw [← e];exact hy)
     simpa [h1,this] using fun h=>h2 (path_ids ks y x h)
    rw [k1,k2,r1,r2,i1,i2,if_neg h2];simp
theorem path_sub:∀ (F:Fo) (y:Int),(F.path y).reverse.Sublist F.ids
 | nil,_=>by simp [path]
 | cons id d ks r,y=>by
  rw [path,ids]
  split
  ·simp
  ·split
   ·rw [List.reverse_append]
    exact ((path_sub ks y).trans (List.sublist_append_left _ _)).cons_cons id
   ·exact ((path_sub r y).trans (List.sublist_append_right _ _)).cons id
end Fo
section
variable {f:Fo} {next:Int}
theorem zC6 (f:Fo):rowsL (f.flat 0)=(Dw f).flat (-1):=by simp [rowsL,Dw,Fo.flat,topD,NodeD.at]
theorem zC7 (f:Fo):(rowsL (f.flat 0)).length=(0 :: f.ids).length:=by rw [zC6,Fo.flat_len,← Fo.ids_len,zBG]
theorem zBW (h:InvF f next) {i:Nat} {y:Int} (hi:(0 :: f.ids)[i]? = some y):idL (rowsL (f.flat 0)) i=y∧dL (rowsL (f.flat 0)) i=(entW f y).d ∧
  ((i=0∧y=0∧upI (rowsL (f.flat 0)) i = -1)∨(0<i∧y∈f.ids ∧ ∃ j:Nat,upI (rowsL (f.flat 0)) i=(j:Int)∧j<i∧(0 :: f.ids)[j]? = some (entW f y).par)):=by
 have hl:=(List.getElem?_eq_some_iff.1 hi).1
 obtain ⟨r,hr⟩:∃ r,(rowsL (f.flat 0))[i]? = some r:=⟨_,List.getElem?_eq_getElem (by rw [zC7];exact hl)⟩
 have hid:r.id=y:=by
  have h1:((Dw f).flat (-1)).map (·.id)=0 :: f.ids:=by rw [Fo.flat_ids,zBG]
  have h2:=congrArg (fun l=>l[i]?) h1
  simp only [List.getElem?_map] at h2;rw [← zC6,hr,hi] at h2
  injection h2
 have hr':=hr
 rw [zC6] at hr';obtain ⟨e,h1,h2,h3,h4⟩:=Fo.up_at (Dw f) 0 (-1) i r (zBX h) hr'
 rw [hid] at h1;have he:entW f y=e:=zBU h1
 refine ⟨by unfold idL;rw [hr];exact hid,by unfold dL;rw [hr,he];show r.x.node=_;rw [h2];rfl,?_⟩
 have hlv:lvlL (rowsL (f.flat 0)) i=r.x.level:=by unfold lvlL;rw [hr]
 have hup:∀ j,lastX (r.x.level-1) (((Dw f).flat (-1)).take i)=some j→upI (rowsL (f.flat 0)) i=(j:Int):=fun j hj=>by
  unfold upI;rw [hlv,zC6,hj]
 cases i with
 | zero =>
  simp at hi
  refine .inl ⟨rfl,hi.symm,?_⟩
  unfold upI
  rfl
 | succ i =>
  have hym:y∈f.ids:=List.mem_of_getElem? (by simpa using hi)
  refine .inr ⟨by omega,hym,?_⟩
  rcases h4 with ⟨_,_,h4⟩ | ⟨j,g1,g2⟩
  ·have:r∈f.flat 0:=List.mem_of_getElem? (by unfold rowsL at hr;rwa [List.getElem?_cons_succ] at hr)
   have:=Fo.flat_ge f 0 r this
   omega
  ·refine ⟨j,hup j g1,?_,by rw [he,← zBG];exact g2⟩
   have:=zFa _ _ _ g1
   rw [List.length_take] at this;omega
theorem zBb (h:InvF f next):(0 :: f.ids).Nodup:=by have:=zBX h;rwa [zBG] at this
theorem zA7 (h:InvF f next) {i j:Nat} {y z:Int} (hi:(0 :: f.ids)[i]? = some y) (hj:(0 :: f.ids)[j]? = some z):y=z ↔ i=j:=by
 have hli:=(List.getElem?_eq_some_iff.1 hi).1
 constructor
 ·rintro rfl
  exact (List.getElem?_inj hli (zBb h)).1 (hi.trans hj.symm)
 ·rintro rfl
  rw [hi] at hj;exact Option.some.inj hj
theorem zHe (h:InvF f next):∀ (i:Nat) (y z:Int),(0 :: f.ids)[i]? = some y→z∈ancW f y → ∃ j,j<i∧(0 :: f.ids)[j]? = some z:=by
 intro i
 induction i using Nat.strongRecOn with
 | _ i ih =>
  intro y z hi hz;obtain ⟨_,_,⟨_,rfl,_⟩ | ⟨hi0,hym,j,_,hj,hjp⟩⟩:=zBW h hi
  ·rw [zDd] at hz;simp at hz
  ·rw [(zBD h hym).1] at hz
   rcases List.mem_cons.1 hz with rfl | hz
   ·exact ⟨j,hj,hjp⟩
   ·obtain ⟨j',h1,h2⟩:=ih j hj _ z hjp hz
    exact ⟨j',by omega,h2⟩
theorem zLf (h:InvF f next) {k:Nat} {x:Int} (hk:(0 :: f.ids)[k]? = some x):∀ (n i:Nat) (y:Int),i≤n→(0 :: f.ids)[i]? = some y→k<i→belB (rowsL (f.flat 0)) (k:Int) (n+1) (i:Int)=decide (x∈ancW f y)
 | n,i,y,hn,hi,hki=>by
  obtain ⟨_,_,⟨h0,_,_⟩ | ⟨hi0,hym,j,hu,hj,hjp⟩⟩:=zBW h hi
  ·omega
  ·rw [belB,if_pos (by omega),Int.toNat_natCast,hu,(zBD h hym).1]
   cases n with
   | zero=>omega
   | succ n =>
    by_cases hkj:k<j
    ·rw [zLf h hk n j _ (by omega) hjp hkj]
     have:x≠(entW f y).par:=fun e=>by have:=(zA7 h hk hjp).1 e;omega
     simp [this]
    ·rw [belB,if_neg (by omega)]
     by_cases e:k=j
     ·subst e
      have:=(zA7 h hk hjp).2 rfl
      simp [this]
     ·have h1:x≠(entW f y).par:=fun e'=>e ((zA7 h hk hjp).1 e')
      have h2:x ∉ ancW f (entW f y).par:=fun hm=>by
       obtain ⟨j',hj',he⟩:=zHe h j _ x hjp hm
       have:=(zA7 h hk he).1 rfl
       omega
      simp [h1,h2]
      omega
theorem zFX (h:InvF f next) {k i:Nat} {x y:Int} (hk:(0 :: f.ids)[k]? = some x) (hi:(0 :: f.ids)[i]? = some y):isBelL (rowsL (f.flat 0)) i k=if k<i then decide (x∈ancW f y) else decide (i=k):=by
 unfold isBelL;by_cases hki:k<i
 ·rw [if_pos hki]
  exact zLf h hk _ i y (by have:=(List.getElem?_eq_some_iff.1 hi).1;rw [zC7];omega) hi hki
 ·rw [if_neg hki,belB,if_neg (by omega)]
  by_cases e:i=k
  ·simp [e]
  ·simp [e];omega
theorem zD1 (h:InvF f next) {x:Int} (hx:x∈0 :: f.ids):kidsW f x=f.ids.filter fun y=>decide ((entW f y).par=x):=by
 have h0:(0:Int) ∉ f.ids:=fun h0=>by have:=(h.rng 0 h0).1;omega
 have e1:f.ids.filter (fun y=>decide ((entW f y).par=x))=f.ids.filter fun y=>(f.ent 0 y).any fun e=>decide (e.par=x):=List.filter_congr fun y hy=>by
  have hy0:y≠0:=fun e=>h0 (by rw [← e];exact hy)
  have:=zJX (f:=f) (List.mem_cons_of_mem 0 hy)
  rw [zLy f hy0] at this;rw [this]
  rfl
 rw [e1,Fo.par_filter f 0 x h.nd h0];unfold kidsW;by_cases hx0:x=0
 ·subst hx0
  rw [if_pos rfl,zBU (zDx f)]
 ·rw [if_neg hx0]
  have:=zJX hx
  rw [zLy f hx0] at this;rw [this]
end
end
section
section
variable {f:Fo} {next:Int}
def ixW (f:Fo) (i:Nat):Int:=(0 :: f.ids)[i]?.getD 0
theorem zMe {i:Nat} {y:Int} (hi:(0 :: f.ids)[i]? = some y):ixW f i=y:=by unfold ixW;rw [hi];rfl
theorem zEq (f:Fo) (p:Nat→Bool) (q:Int→Bool) (h:∀ i y,(0 :: f.ids)[i]? = some y→p i=q y):((List.range (rowsL (f.flat 0)).length).filter p).map (ixW f)=(0 :: f.ids).filter q:=by
 rw [zC7];exact zBy (0 :: f.ids) 0 p q h
theorem zIO (f:Fo) (p:Nat→Bool) (q:Int→Bool) (h:∀ i y,(0 :: f.ids)[i]? = some y→p i=q y):((List.range (rowsL (f.flat 0)).length).reverse.filter p).map (ixW f)=((0 :: f.ids).filter q).reverse:=by
 rw [List.filter_reverse,List.map_reverse,zEq f p q h]
theorem zMp (h:InvF f next) {k i:Nat} {x y:Int} (hk:(0 :: f.ids)[k]? = some x) (hi:(0 :: f.ids)[i]? = some y):upI (rowsL (f.flat 0)) i=(k:Int) ↔ y∈f.ids∧(entW f y).par=x:=by
 obtain ⟨_,_,⟨rfl,rfl,hu⟩ | ⟨hi0,hym,j,hu,hj,hjp⟩⟩:=zBW h hi
 ·rw [hu]
  constructor
  ·intro e;omega
  ·rintro ⟨h0,_⟩;have:=(h.rng 0 h0).1;omega
 ·rw [hu]
  have:=zA7 h hjp hk
  constructor
  ·intro e;exact ⟨hym,this.2 (by omega)⟩
  ·rintro ⟨_,e⟩;have:=this.1 e;omega
theorem zMq (h:InvF f next) {k i:Nat} {x y:Int} (hk:(0 :: f.ids)[k]? = some x) (hi:(0 :: f.ids)[i]? = some y) (hx:x∈f.ids) (hy:y∈f.ids):upI (rowsL (f.flat 0)) i=upI (rowsL (f.flat 0)) k ↔ (entW f y).par=(entW f x).par:=by
 have h0:∀ z∈f.ids,z≠0:=fun z hz e=>by subst e;have:=(h.rng 0 hz).1;omega
 obtain ⟨_,_,⟨_,e0,_⟩ | ⟨hi0,hym,j,hu,hj,hjp⟩⟩:=zBW h hi
 ·exact absurd e0 (h0 y hy)
 obtain ⟨_,_,⟨_,e0,_⟩ | ⟨hk0,hxm,j',hu',hj',hjp'⟩⟩:=zBW h hk
 ·exact absurd e0 (h0 x hx)
 rw [hu,hu',zA7 h hjp hjp'];omega
theorem zGq (_:InvF f next) {k:Nat} {x:Int} (hk:(0 :: f.ids)[k]? = some x):0 :: f.ids=(0 :: f.ids).take k++x :: (0 :: f.ids).drop (k+1):=by
 have hl:=(List.getElem?_eq_some_iff.1 hk).1
 conv=>lhs;rw [← List.take_append_drop k (0 :: f.ids)]
 rw [List.drop_eq_getElem_cons hl,(List.getElem?_eq_some_iff.1 hk).2]
theorem zDT (h:InvF f next) {k i:Nat} {y:Int} (hi:(0 :: f.ids)[i]? = some y):y∈(0 :: f.ids).take k ↔ i<k:=by
 constructor
 ·intro hm
  obtain ⟨j,hj⟩:=List.mem_iff_getElem?.1 hm
  rw [List.getElem?_take] at hj
  split at hj
  ·have:=(zA7 h hi hj).1 rfl;omega
  ·cases hj
 ·intro hlt
  exact List.mem_iff_getElem?.2 ⟨i,by rw [List.getElem?_take,if_pos hlt];exact hi⟩
theorem zGT (h:InvF f next) {k i:Nat} {y:Int} (hi:(0 :: f.ids)[i]? = some y):y∈(0 :: f.ids).drop (k+1) ↔ k<i:=by
 constructor
 ·intro hm
  obtain ⟨j,hj⟩:=List.mem_iff_getElem?.1 hm
  rw [List.getElem?_drop] at hj;have:=(zA7 h hi hj).1 rfl
  omega
 ·intro hlt
  exact List.mem_iff_getElem?.2 ⟨i-(k+1),by rw [List.getElem?_drop,show k+1+(i-(k+1))=i by omega];exact hi⟩
theorem zDw (m l:List Int) (hs:m.Sublist l) (hn:l.Nodup) (Q:Int→Bool):l.filter (fun y=>decide (y∈m) && Q y)=m.filter Q:=by
 have h1:(l.filter (fun y=>decide (y∈m))).filter Q=m.filter Q:=by rw [zBM m l hs hn]
 rw [← h1,List.filter_filter];exact List.filter_congr fun y _=>Bool.and_comm _ _
theorem zJb {l:List Int} {p q:List Int} {x:Int} (e:l=p++x :: q) (hx:x ∉ p):l.idxOf x=p.length:=by
 subst e;rw [List.idxOf_append,if_neg hx];simp
theorem zF8 (h:InvF f next) {k:Nat} {x:Int} (hk:(0 :: f.ids)[k]? = some x) (hx:x∈f.ids) :
  besW f x≠[]∧(besW f x).drop ((besW f x).idxOf x+1)=((0 :: f.ids).drop (k+1)).filter (fun y=>decide (y∈f.ids) && decide ((entW f y).par=(entW f x).par)) ∧
   (besW f x).take ((besW f x).idxOf x)=((0 :: f.ids).take k).filter (fun y=>decide (y∈f.ids) && decide ((entW f y).par=(entW f x).par)):=by
 have hx0:x≠0:=fun e=>by subst e;have:=(h.rng 0 hx).1;omega
 have h0:(0:Int) ∉ f.ids:=fun h0=>by have:=(h.rng 0 h0).1;omega
 have hb:besW f x=(0 :: f.ids).filter (fun y=>decide (y∈f.ids) && decide ((entW f y).par=(entW f x).par)):=by
  unfold besW;rw [if_neg hx0,zD1 h (zBD h hx).2,List.filter_cons_of_neg (by simp [h0])]
  exact List.filter_congr fun y hy=>by simp [hy]
 have hs:=zGq h hk
 rw [hs,List.filter_append,List.filter_cons_of_pos (by simp [hx])] at hb
 have hxp:x ∉ ((0 :: f.ids).take k).filter (fun y=>decide (y∈f.ids) && decide ((entW f y).par=(entW f x).par)):=fun hm=>by
  have:=(zDT h hk).1 (List.mem_filter.1 hm).1
  omega
 have hi:=zJb hb hxp
 refine ⟨by rw [hb];simp,?_,?_⟩
 ·rw [hi,hb,List.drop_append]
  simp
 ·rw [hi,hb]
  simp
theorem zJG (h:InvF f next) {k:Nat} {x:Int} (hk:(0 :: f.ids)[k]? = some x) {axis:Int} (ha:1≤axis∧axis≤8) (p:Nat→Bool) (t:Int→Bool) (hpt:∀ i y,(0 :: f.ids)[i]? = some y→p i=t y) :
  ((ordN axis (rowsL (f.flat 0)).length).filter fun n=>leadsN (rowsL (f.flat 0)) axis k n && p n).map (ixW f)=(axisW f axis x).filter t:=by
 have hxm:x∈0 :: f.ids:=List.mem_of_getElem? hk
 have h0:(0:Int) ∉ f.ids:=fun h0=>by have:=(h.rng 0 h0).1;omega
 have fwd:∀ (l:Nat→Bool) (q:Int→Bool) (r:List Int),(∀ i y,(0 :: f.ids)[i]? = some y→l i=q y)→(0 :: f.ids).filter q=r→((List.range (rowsL (f.flat 0)).length).filter fun n=>l n && p n).map (ixW f)=r.filter t:=fun l q r h1 h2=>by
  rw [zEq f _ (fun y=>t y && q y) (fun i y hi=>by rw [h1 i y hi,hpt i y hi,Bool.and_comm]),← h2,List.filter_filter]
 have bwd:∀ (l:Nat→Bool) (q:Int→Bool) (r:List Int),(∀ i y,(0 :: f.ids)[i]? = some y→l i=q y)→((0 :: f.ids).filter q).reverse=r→((List.range (rowsL (f.flat 0)).length).reverse.filter fun n=>l n && p n).map (ixW f)=r.filter t:=fun l q r h1 h2=>by
  rw [zIO f _ (fun y=>t y && q y) (fun i y hi=>by rw [h1 i y hi,hpt i y hi,Bool.and_comm]),← h2,List.filter_reverse,List.filter_filter]
 unfold ordN axisW leadsN;obtain ⟨a1,a8⟩:=ha
 by_cases e1:axis=1
 ·subst e1
  simp only [if_true,if_false,Int.reduceEq,or_self];refine fwd _ (fun y=>decide (y∈f.ids) && decide ((entW f y).par=x)) _ (fun i y hi=>?_) ?_
  ·have hu:=zMp h hk hi
   by_cases hc:y∈f.ids∧(entW f y).par=x
   ·have:=hu.2 hc
    obtain ⟨_,_,⟨_,rfl,_⟩ | ⟨_,_,j,hj,hj',_⟩⟩:=zBW h hi
    ·exact absurd hc.1 h0
    ·have:k<i:=by omega
     simp [hc,hu,this]
   ·have hn:¬ (upI (rowsL (f.flat 0)) i=(k:Int)):=fun e=>hc (hu.1 e)
    rw [decide_eq_false hn,Bool.and_false];by_cases hm:y∈f.ids
    ·have:¬ (entW f y).par=x:=fun e=>hc ⟨hm,e⟩
     simp [this]
    ·simp [hm]
  ·rw [List.filter_cons_of_neg (by simp [h0]),zD1 h hxm]
   exact List.filter_congr fun y hy=>by simp [hy]
 by_cases e2:axis=2
 ·subst e2
  simp only [if_true,if_false,Int.reduceEq,or_self];refine fwd _ (fun y=>decide (x∈ancW f y)) _ (fun i y hi=>?_) ?_
  ·rw [zFX h hk hi]
   by_cases hki:k<i
   ·simp [hki]
   ·rw [decide_eq_false hki,Bool.false_and]
    refine (decide_eq_false fun hm=>?_).symm
    obtain ⟨j,hj,he⟩:=zHe h i y x hi hm
    have:=(zA7 h hk he).1 rfl
    omega
  ·have:=(Fo.path_filter (Dw f) x (zBX h) (by rw [zBG];exact hxm)).1
   rw [zBG] at this;exact this
 by_cases e3:axis=3
 ·subst e3
  simp only [if_true,if_false,Int.reduceEq,or_self];refine fwd _ (fun y=>decide (y=x∨x∈ancW f y)) _ (fun i y hi=>?_) ?_
  ·rw [zFX h hk hi]
   have hyx:=zA7 h hi hk
   by_cases hki:k<i
   ·have:¬ y=x:=fun e=>by have:=hyx.1 e;omega
    simp [hki,this,Nat.le_of_lt hki]
   ·rw [if_neg hki]
    by_cases e:i=k
    ·have:=hyx.2 e
     simp [e,this]
    ·have h1:¬ k≤i:=by omega
     have h2:¬ y=x:=fun e'=>e (hyx.1 e')
     have h3:x ∉ ancW f y:=fun hm=>by
      obtain ⟨j,hj,he⟩:=zHe h i y x hi hm
      have:=(zA7 h hk he).1 rfl
      omega
     simp [h1,h2,h3]
  ·have:=(Fo.path_filter (Dw f) x (zBX h) (by rw [zBG];exact hxm)).2
   rw [zBG] at this;exact this
 by_cases e4:axis=4
 ·subst e4
  simp only [if_true,if_false,Int.reduceEq,or_self];refine fwd _ (fun y=>decide (y∈(ancW f x).take 1)) _ (fun i y hi=>?_) ?_
  ·obtain ⟨_,_,⟨_,rfl,hu⟩ | ⟨_,hxf,j,hu,_,hjp⟩⟩:=zBW h hk
   ·rw [hu,zDd];simp
   ·rw [hu,(zBD h hxf).1]
    have:=zA7 h hi hjp
    by_cases e:i=j
    ·have:=this.2 e;simp [e,this]
    ·have:¬ y=(entW f x).par:=fun e'=>e (this.1 e')
     simp [this];omega
  ·refine zBM _ _ ?_ (zBb h)
   obtain ⟨_,_,⟨_,rfl,hu⟩ | ⟨_,hxf,j,hu,_,hjp⟩⟩:=zBW h hk
   ·rw [zDd];simp
   ·rw [(zBD h hxf).1]
    simpa using (zBD h hxf).2
 by_cases e5:axis=5
 ·subst e5
  simp only [if_true,if_false,Int.reduceEq,or_false];refine bwd _ (fun y=>decide (y∈(ancW f x).reverse)) _ (fun i y hi=>?_) ?_
  ·rw [zFX h hi hk]
   by_cases hki:i<k
   ·simp [hki]
   ·rw [decide_eq_false hki,Bool.false_and]
    refine (decide_eq_false fun hm=>?_).symm
    obtain ⟨j,hj,he⟩:=zHe h k x y hk (List.mem_reverse.1 hm)
    have:=(zA7 h hi he).1 rfl
    omega
  ·have:=Fo.path_sub (Dw f) x
   rw [zBG,show (Dw f).path x=ancW f x from rfl] at this
   rw [zBM _ _ this (zBb h),List.reverse_reverse]
 by_cases e6:axis=6
 ·subst e6
  simp only [if_true,if_false,Int.reduceEq,or_self];obtain ⟨_,_,⟨rfl,rfl,hu⟩ | ⟨hk0,hxf,j,hu,_,hjp⟩⟩:=zBW h hk
  ·have:besW f 0=[]:=by simp [besW]
   rw [if_pos this];refine fwd _ (fun y=>false) _ (fun i y hi=>by simp) ?_
   simp
  ·obtain ⟨b1,b2,b3⟩:=zF8 h hk hxf
   rw [if_neg b1,b2];refine fwd _ (fun y=>decide (y∈(0 :: f.ids).drop (k+1)) && (decide (y∈f.ids) && decide ((entW f y).par=(entW f x).par))) _ (fun i y hi=>?_) ?_
   ·have hm:=zGT h (k:=k) hi
    by_cases hki:k<i
    ·have hyf:y∈f.ids:=by
      obtain ⟨_,_,⟨e,_,_⟩ | ⟨_,hy,_⟩⟩:=zBW h hi
      ·omega
      ·exact hy
     have huu:=zMq h hk hi hxf hyf
     simp only [hki,hk0,hm.2 hki,hyf,decide_true,Bool.true_and];exact decide_eq_decide.2 huu
    ·have:¬ y∈(0 :: f.ids).drop (k+1):=fun e=>hki (hm.1 e)
     rw [decide_eq_false hki,decide_eq_false this];simp
   ·exact zDw _ _ (List.drop_sublist _ _) (zBb h) _
 by_cases e7:axis=7
 ·subst e7
  simp only [if_true,if_false,Int.reduceEq,or_true];obtain ⟨_,_,⟨rfl,rfl,hu⟩ | ⟨hk0,hxf,j,hu,_,hjp⟩⟩:=zBW h hk
  ·have:besW f 0=[]:=by simp [besW]
   rw [if_pos this];refine bwd _ (fun y=>false) _ (fun i y hi=>by simp) ?_
   simp
  ·obtain ⟨b1,b2,b3⟩:=zF8 h hk hxf
   rw [if_neg b1,b3];refine bwd _ (fun y=>decide (y∈(0 :: f.ids).take k) && (decide (y∈f.ids) && decide ((entW f y).par=(entW f x).par))) _ (fun i y hi=>?_) ?_
   ·have hm:=zDT h (k:=k) hi
    by_cases hki:i<k
    ·by_cases hi0:0<i
     ·have hyf:y∈f.ids:=by
       obtain ⟨_,_,⟨e,_,_⟩ | ⟨_,hy,_⟩⟩:=zBW h hi
       ·omega
       ·exact hy
      have huu:=zMq h hk hi hxf hyf
      simp only [hki,hk0,hi0,hm.2 hki,hyf,decide_true,Bool.true_and];exact decide_eq_decide.2 huu
     ·have:i=0:=by omega
      subst this;simp at hi
      subst hi;simp [h0]
    ·have:¬ y∈(0 :: f.ids).take k:=fun e=>hki (hm.1 e)
     rw [decide_eq_false hki,decide_eq_false this];simp
   ·congr 1
    exact zDw _ _ (List.take_sublist _ _) (zBb h) _
 ·have e8:axis=8:=by omega
  subst e8;simp only [if_true,if_false,Int.reduceEq,or_self];refine fwd _ (fun y=>decide (y∈[x])) _ (fun i y hi=>?_) ?_
  ·have:=zA7 h hi hk
   refine decide_eq_decide.2 ?_
   rw [List.mem_singleton];exact this.symm
  ·exact zBM _ _ (by simpa using hxm) (zBb h)
end
end
section
theorem zEk {α:Type} (p:α→Bool) (l:List α):l.any p=true ↔ l.filter p≠[]:=by
 rw [List.any_eq_true,Ne,List.filter_eq_nil_iff]
 constructor
 ·rintro ⟨x,h1,h2⟩ h;exact h x h1 h2
 ·intro h
  exact Classical.byContradiction fun hc=>h fun x hx hp=>hc ⟨x,hx,hp⟩
section
variable {f:Fo} {next:Int}
theorem zHo {k:Nat} (hk:k<(rowsL (f.flat 0)).length):(0 :: f.ids)[k]? = some (ixW f k):=by
 rw [zC7] at hk;unfold ixW;rw [List.getElem?_eq_getElem hk]
 rfl
theorem zMI (h:InvF f next) {k:Nat} {x:Int} (hk:(0 :: f.ids)[k]? = some x) (text:List UInt8):saysN (rowsL (f.flat 0)) k text=saysW f x text:=by
 have ha:=zJG h hk (axis:=1) (by omega) (fun i=>decide ((dL (rowsL (f.flat 0)) i).kind=2) && decide ((dL (rowsL (f.flat 0)) i).text=text)) (fun y=>decide ((entW f y).d.kind=2) && decide ((entW f y).d.text=text)) (fun i y hi=>by rw [(zBW h hi).2.1])
 have ho:ordN 1 (rowsL (f.flat 0)).length=List.range (rowsL (f.flat 0)).length:=by simp [ordN]
 have hx:axisW f 1 x=kidsW f x:=by simp [axisW]
 rw [ho,hx] at ha;have e:∀ a b:Bool,(a=true ↔ b=true)→a=b:=fun a b h=>by cases a <;> cases b <;> simp_all
 refine e _ _ ?_
 unfold saysN saysW;rw [zEk,zEk,← ha,Ne,Ne,List.map_eq_nil_iff];simp only [Bool.and_assoc]
theorem zL3 (h:InvF f next) {k:Nat} {x:Int} (hk:(0 :: f.ids)[k]? = some x) (p:PredD) (n many:Nat):keptN (rowsL (f.flat 0)) p k n many=keepsW f p x n many:=by
 unfold keptN keepsW;rw [zMI h hk,(zBW h hk).2.1]
theorem zJj (h:InvF f next) (p:PredD) (many:Nat):∀ (n:Nat) (l:List Nat),(∀ k∈l,k<(rowsL (f.flat 0)).length)→(leftN (rowsL (f.flat 0)) p many n l).map (ixW f)=leftW f p many n (l.map (ixW f)) ∧ ∀ k∈leftN (rowsL (f.flat 0)) p many n l,k<(rowsL (f.flat 0)).length
 | n,[],_=>⟨rfl,by simp [leftN]⟩
 | n,x :: l,hl=>by
  obtain ⟨h1,h2⟩:=zJj h p many (n+1) l fun k hk=>hl k (List.mem_cons_of_mem _ hk)
  rw [leftN,List.map_cons,leftW,zL3 h (zHo (hl x List.mem_cons_self))]
  split
  ·exact ⟨by rw [List.map_cons,h1],fun k hk=>by
    rcases List.mem_cons.1 hk with rfl | hk
    ·exact hl _ List.mem_cons_self
    ·exact h2 k hk⟩
  ·exact ⟨h1,h2⟩
theorem zH1 (h:InvF f next):∀ (ps:List PredD) (l:List Nat),(∀ k∈l,k<(rowsL (f.flat 0)).length)→(predsN (rowsL (f.flat 0)) ps l).map (ixW f)=predsW f ps (l.map (ixW f)) ∧ ∀ k∈predsN (rowsL (f.flat 0)) ps l,k<(rowsL (f.flat 0)).length
 | [],l,hl=>⟨rfl,hl⟩
 | p :: ps,l,hl=>by
  obtain ⟨h1,h2⟩:=zJj h p l.length 0 l hl
  rw [predsN,predsW,List.length_map,← h1];exact zH1 h ps _ h2
def StepK (s:StepD):Prop:=(1≤s.axis∧s.axis≤8)∧1≤s.test∧s.test≤4
theorem zMJ {s:StepD} (hs:StepK s) (d:NodeD):testR s d=testW s d:=by
 unfold testR testW;obtain ⟨_,h1,h2⟩:=hs
 by_cases e1:s.test=1
 ·rw [if_pos e1,if_pos e1]
 by_cases e2:s.test=2
 ·simp [e2]
 by_cases e3:s.test=3
 ·simp [e3]
 have e4:s.test=4:=by omega
 simp [e4]
theorem zFo (h:InvF f next) {k:Nat} {x:Int} (hk:(0 :: f.ids)[k]? = some x) {s:StepD} (hs:StepK s):(stepN (rowsL (f.flat 0)) s k).map (ixW f)=stepW f s x ∧ ∀ j∈stepN (rowsL (f.flat 0)) s k,j<(rowsL (f.flat 0)).length:=by
 have ha:=zJG h hk hs.1 (fun i=>testR s (dL (rowsL (f.flat 0)) i)) (fun y=>testW s (entW f y).d) (fun i y hi=>by rw [zMJ hs,(zBW h hi).2.1])
 have hlt:∀ j∈(ordN s.axis (rowsL (f.flat 0)).length).filter fun n=>leadsN (rowsL (f.flat 0)) s.axis k n && testR s (dL (rowsL (f.flat 0)) n),j<(rowsL (f.flat 0)).length:=fun j hj=>by
  have:=(List.mem_filter.1 hj).1
  unfold ordN at this
  split at this
  ·exact List.mem_range.1 (List.mem_reverse.1 this)
  ·exact List.mem_range.1 this
 obtain ⟨h1,h2⟩:=zH1 h s.preds _ hlt
 unfold stepN stepW;rw [h1,ha];exact ⟨rfl,h2⟩
theorem zFY:∀ (l r:List Nat) (i:Nat),i∈joinN l r ↔ i∈l∨i∈r
 | l,[],i=>by simp [joinN]
 | l,x :: r,i=>by
  rw [joinN,zFY]
  split
  ·rename_i hx
   constructor
   ·rintro (h | h)
    ·exact .inl h
    ·exact .inr (List.mem_cons_of_mem _ h)
   ·rintro (h | h)
    ·exact .inl h
    ·rcases List.mem_cons.1 h with rfl | h
     ·exact .inl hx
     ·exact .inr h
  ·simp [or_assoc]
theorem zDh (L:List RowD) (s:StepD):∀ (F acc:List Nat) (i:Nat),i∈nextN L s acc F ↔ i∈acc ∨ ∃ k∈F,i∈stepN L s k
 | [],acc,i=>by simp [nextN]
 | k :: r,acc,i=>by
  rw [nextN,zDh,zFY];simp [or_assoc]
theorem zHk (h:InvF f next):∀ (l:List StepD) (F:List Nat) (G:Int→Bool),(∀ s∈l,StepK s)→(∀ k∈F,k<(rowsL (f.flat 0)).length)→(∀ i y,(0 :: f.ids)[i]? = some y→decide (i∈F)=G y) →
  (∀ i y,(0 :: f.ids)[i]? = some y→decide (i∈foundN (rowsL (f.flat 0)) l F)=foundW f l G y)
 | [],F,G,_,_,hg=>hg
 | s :: l,F,G,hs,hF,hg=>by
  have hsk:=hs s List.mem_cons_self
  rw [foundN];refine zHk h l (nextN (rowsL (f.flat 0)) s [] F) _ (fun z hz=>hs z (List.mem_cons_of_mem _ hz)) (fun k hk=>?_) (fun i y hi=>?_)
  ·rcases (zDh _ _ F [] k).1 hk with hk | ⟨j,hj,hk⟩
   ·simp at hk
   ·exact (zFo h (zHo (hF j hj)) hsk).2 k hk
  ·have e:∀ (p:Prop) [Decidable p] (b:Bool),(p ↔ b=true)→decide p=b:=fun p _ b h=>by by_cases hp:p <;> simp_all
   refine e _ _ ?_
   rw [zDh,List.any_eq_true]
   constructor
   ·rintro (hk | ⟨k,hk,hik⟩)
    ·simp at hk
    ·have hkx:=zHo (hF k hk)
     obtain ⟨s1,s2⟩:=zFo h hkx hsk
     refine ⟨ixW f k,List.mem_of_getElem? hkx,?_⟩
     rw [← hg k _ hkx,decide_eq_true hk,← s1,Bool.true_and];exact decide_eq_true (List.mem_map.2 ⟨i,hik,zMe hi⟩)
   ·rintro ⟨x,hx,hc⟩
    obtain ⟨k,hkx⟩:=List.mem_iff_getElem?.1 hx
    rw [← hg k x hkx,Bool.and_eq_true,decide_eq_true_iff,decide_eq_true_iff,← (zFo h hkx hsk).1] at hc;obtain ⟨hk,hm⟩:=hc
    obtain ⟨j,hj,he⟩:=List.mem_map.1 hm
    have hjx:=zHo ((zFo h hkx hsk).2 j hj)
    rw [he] at hjx;have:=(zA7 h hjx hi).1 rfl
    subst this;exact .inr ⟨k,hk,hj⟩
theorem zMl (h:InvF f next) (F:List Nat) (G:Int→Bool) (hg:∀ i y,(0 :: f.ids)[i]? = some y→decide (i∈F)=G y):outN (rowsL (f.flat 0)) F=f.ids.filter G:=by
 have hl:(rowsL (f.flat 0)).length-1=f.ids.length:=by rw [zC7];simp
 unfold outN;rw [hl,List.range'_eq_map_range,List.filter_map,List.map_map];have:=zBy f.ids 0 (fun i=>decide (1+i∈F)) G (fun i y hi=>hg (1+i) y (by rw [Nat.add_comm,List.getElem?_cons_succ];exact hi))
 rw [← this];refine List.map_congr_left fun i hi=>?_
 have hi':=List.mem_range.1 (List.mem_filter.1 hi).1
 have:(0 :: f.ids)[1+i]? = some f.ids[i]:=by rw [Nat.add_comm,List.getElem?_cons_succ,List.getElem?_eq_getElem hi']
 rw [Function.comp_apply,(zBW h this).1,List.getElem?_eq_getElem hi']
 rfl
theorem zFS (h:InvF f next) (l:List StepD):evalN (f.flat 0) l=evalW f l:=by
 unfold evalN evalW;by_cases hr:rightL l=true
 ·rw [if_pos hr,if_pos hr]
  have hk:∀ s∈l,StepK s:=fun s hs=>by
   unfold rightL at hr;simp only [Bool.and_eq_true,List.all_eq_true] at hr;have:=hr.1 s hs
   unfold stepB at this;simp only [Bool.and_eq_true,decide_eq_true_eq] at this;exact ⟨this.1.1.1.1,this.1.1.1.2⟩
  refine zMl h _ _ (zHk h l [0] _ hk (fun k hk=>?_) fun i y hi=>?_)
  ·rw [List.mem_singleton.1 hk];simp [rowsL]
  ·have:=zA7 h hi (show (0 :: f.ids)[0]? = some 0 from rfl)
   refine decide_eq_decide.2 ?_
   rw [List.mem_singleton];exact this.symm
 ·rw [if_neg hr,if_neg hr]
end
end
section
def docW:List ItemD:=[⟨0,1,[97],[],[]⟩,⟨1,1,[98],[],[⟨[107],[49]⟩]⟩,⟨1,2,[],[120],[]⟩,⟨1,1,[98],[],[]⟩]
def rowsD:List RowD:=[⟨1,⟨0,1,[97],[],[]⟩⟩,⟨2,⟨1,1,[98],[],[⟨[107],[49]⟩]⟩⟩,⟨3,⟨1,2,[],[120],[]⟩⟩,⟨4,⟨1,1,[98],[],[]⟩⟩]
def qA:List StepD:=[⟨3,4,[],[]⟩,⟨1,1,[98],[]⟩]
def qB:List StepD:=[⟨1,1,[97],[]⟩,⟨1,1,[98],[⟨1,2,[],[]⟩]⟩]
theorem zG3:loadL [] 1 docW=(rowsD,5,1,0):=by decide
theorem zJB:queryL [47,47,98]=(qA,0,0):=by decide
theorem zJC:queryL [47,97,47,98,91,50,93]=(qB,0,0):=by decide
theorem zKh:evalN rowsD qA=[2,4]:=by decide
theorem zKi:evalN rowsD qB=[4]:=by decide
end
section
open Go.RowKit Go.Shelf
theorem zIM:SmallItems docW:=⟨by decide,fun k x hx=>by
 match k,hx with
 | 0,hx=>injection hx with hx;subst hx;exact ⟨by decide,by decide,by decide,fun k a h=>by simp at h,by decide⟩
 | 1,hx =>
  injection hx with hx
  subst hx;refine ⟨by decide,by decide,by decide,fun k a h=>?_,by decide⟩
  match k,h with
  | 0,h=>injection h with h;subst h;exact ⟨by decide,by decide⟩
  | k+1,h=>simp at h
 | 2,hx=>injection hx with hx;subst hx;exact ⟨by decide,by decide,by decide,fun k a h=>by simp at h,by decide⟩
 | 3,hx=>injection hx with hx;subst hx;exact ⟨by decide,by decide,by decide,fun k a h=>by simp at h,by decide⟩
 | k+4,hx=>simp [docW] at hx⟩
theorem zEj (w:World):Calls Tryz.prog 12 #[] w (Ret w (.bool true)):=by
 go_enter Tryz.func12,Tryz.ntmps12
 go_wp2_with fail;obtain ⟨w1,hw1⟩:∃ w1,Hid ((w.alloc (.cells #[.string ⟨#[107]⟩,.string ⟨#[49]⟩] 77)).alloc (.cells #[.int .i64 0,.int .i64 1,.string ⟨#[97]⟩,.string ⟨#[]⟩,.slice none 0 0,.int .i64 1,.int .i64 1,.string ⟨#[98]⟩,.string ⟨#[]⟩,.slice (some ⟨w.heap.size,0,none⟩) 1 1,.int .i64 1,.int .i64 2,.string ⟨#[]⟩,.string ⟨#[120]⟩,.slice none 0 0,.int .i64 1,.int .i64 1,.string ⟨#[98]⟩,.string ⟨#[]⟩,.slice none 0 0] 75)=w1):=⟨_,rfl⟩
 have hb1:Below w.heap.size w w1:=by rw [← hw1.out];exact ((Below.refl _ w).alloc (Nat.le_refl _) _).alloc (by simp) _
 have ha1:w1.heap[w.heap.size]? = some (.cells #[.string ⟨#[107]⟩,.string ⟨#[49]⟩] 77 (0,0)):=by
  rw [← hw1.out];exact (Below.heap_alloc _ _ _ (by simp)).trans (heap_alloc_new w _)
 have hi1:w1.heap[w.heap.size+1]? = some (.cells #[.int .i64 0,.int .i64 1,.string ⟨#[97]⟩,.string ⟨#[]⟩,.slice none 0 0,.int .i64 1,.int .i64 1,.string ⟨#[98]⟩,.string ⟨#[]⟩,.slice (some ⟨w.heap.size,0,none⟩) 1 1,.int .i64 1,.int .i64 2,.string ⟨#[]⟩,.string ⟨#[120]⟩,.slice none 0 0,.int .i64 1,.int .i64 1,.string ⟨#[98]⟩,.string ⟨#[]⟩,.slice none 0 0] 75 (0,0)):=by
  rw [← hw1.out];have:=heap_alloc_new (w.alloc (.cells #[.string ⟨#[107]⟩,.string ⟨#[49]⟩] 77)) (.cells #[.int .i64 0,.int .i64 1,.string ⟨#[97]⟩,.string ⟨#[]⟩,.slice none 0 0,.int .i64 1,.int .i64 1,.string ⟨#[98]⟩,.string ⟨#[]⟩,.slice (some ⟨w.heap.size,0,none⟩) 1 1,.int .i64 1,.int .i64 2,.string ⟨#[]⟩,.string ⟨#[120]⟩,.slice none 0 0,.int .i64 1,.int .i64 1,.string ⟨#[98]⟩,.string ⟨#[]⟩,.slice none 0 0] 75)
  simpa using this
 have hz1:w.heap.size+1<w1.heap.size:=(Array.getElem?_eq_some_iff.1 hi1).1
 have HD1:Hid (ItemsAt w1 w1.heap.size (some ⟨w.heap.size+1,0,none⟩) docW):=fun _=>by
  refine ⟨_,rfl,hz1,fun k x hx=>?_⟩
  rw [zAI]
  match k,hx with
  | 0,hx =>
   injection hx with hx
   subst hx;exact ⟨none,0,fun h=>absurd h (by simp),by simp,zAA hi1 0 _ rfl,zAA hi1 1 _ rfl,zAA hi1 2 _ rfl,zAA hi1 3 _ rfl,zAA hi1 4 _ rfl⟩
  | 1,hx =>
   injection hx with hx
   subst hx;refine ⟨some ⟨w.heap.size,0,none⟩,1,fun _=>⟨_,rfl,by show w.heap.size<_;omega,fun j a hj=>?_⟩,by simp,zAA hi1 5 _ rfl,zAA hi1 6 _ rfl,zAA hi1 7 _ rfl,zAA hi1 8 _ rfl,zAA hi1 9 _ rfl⟩
   rw [zAI]
   match j,hj with
   | 0,hj=>injection hj with hj;subst hj;exact ⟨zAA ha1 0 _ rfl,zAA ha1 1 _ rfl⟩
   | j+1,hj=>simp at hj
  | 2,hx =>
   injection hx with hx
   subst hx;exact ⟨none,0,fun h=>absurd h (by simp),by simp,zAA hi1 10 _ rfl,zAA hi1 11 _ rfl,zAA hi1 12 _ rfl,zAA hi1 13 _ rfl,zAA hi1 14 _ rfl⟩
  | 3,hx =>
   injection hx with hx
   subst hx;exact ⟨none,0,fun h=>absurd h (by simp),by simp,zAA hi1 15 _ rfl,zAA hi1 16 _ rfl,zAA hi1 17 _ rfl,zAA hi1 18 _ rfl,zAA hi1 19 _ rfl⟩
  | k+4,hx=>simp [docW] at hx
 have HB1:=Lib.hid hb1
 clear hb1 ha1 hi1 hz1;rw [hw1.out];refine (zGI docW (some ⟨w.heap.size+1,0,none⟩) 4 w1 HD1.out zIM (by decide)).mono ?_
 rintro e w2 ⟨M,t,f,next,A2,c2,rfl,ht2,_,hf2,hb2,_⟩;rw [zG3] at hf2;have HB2:=Lib.hid (HB1.out.trans (hb2.mono HB1.out.size))
 have HT2:=Lib.hid ht2
 have HFA:Hid (findW f (qA,0,0)=[2,4]):=by show _=_;unfold findW;rw [if_pos rfl,← zFS ht2.inv,hf2];exact zKh
 have HFB:Hid (findW f (qB,0,0)=[4]):=by show _=_;unfold findW;rw [if_pos rfl,← zFS ht2.inv,hf2];exact zKi
 clear hf2 hb2 ht2
 go_upto_region 4 with (fail)
 obtain ⟨w3,hw3⟩:∃ w3,Hid (w2.alloc (.cells #[.slice A2 (f.flat 0).length c2,.int .i64 next] 27)=w3):=⟨_,rfl⟩
 rw [hw3.out];have hb3:Below w2.heap.size w2 w3:=by rw [← hw3.out];exact (Below.refl _ w2).alloc (Nat.le_refl _) _
 have HB3:=Lib.hid (HB2.out.trans (hb3.mono HB2.out.size))
 have HT3:=Lib.hid (HT2.out.below hb3)
 clear hb3
 go_wp2_with fail;refine (zFG HT3.out ⟨#[47,47,98]⟩ (by decide) (qA,0,0) zJB).mono ?_
 rintro e w4 ⟨A4,c4,rfl,hr4,hb4,_⟩;rw [HFA.out] at hr4 ⊢;have HR4:=Lib.hid hr4
 have HB4:=Lib.hid (HB3.out.trans (hb4.mono HB3.out.size))
 have HT4:=Lib.hid (HT3.out.below hb4)
 clear hr4 hb4
 go_wp2_with fail;refine (zFG HT4.out ⟨#[47,97,47,98,91,50,93]⟩ (by decide) (qB,0,0) zJC).mono ?_
 rintro e w5 ⟨A5,c5,rfl,hr5,hb5,_⟩;rw [HFB.out] at hr5 ⊢;have HR5:=Lib.hid hr5
 have HR4':Hid (intRow w5 (.slice A4 2 c4) [2,4]):=zAC HR4.out fun b hb=>hb5.block b (zAJ HR4.out hb)
 have HB5:=Lib.hid (HB4.out.trans (hb5.mono HB4.out.size))
 clear hr5 hb5
 go_wp2_with fail;obtain ⟨w6,hw6⟩:∃ w6,Hid (w5.alloc (.cells #[.int .i64 2,.int .i64 4] 3)=w6):=⟨_,rfl⟩
 rw [hw6.out];have hb6:Below w5.heap.size w5 w6:=by rw [← hw6.out];exact (Below.refl _ w5).alloc (Nat.le_refl _) _
 have hr6:intRow w6 (.slice (some ⟨w5.heap.size,0,none⟩) 2 2) [2,4]:=by rw [← hw6.out];exact zE9 (heap_alloc_new w5 _) (Nat.le_refl _) (by decide) rfl rfl
 have hr6':intRow w6 (.slice A4 2 c4) [2,4]:=zAC HR4'.out fun b hb=>hb6.block b (zAJ HR4'.out hb)
 have HR5':Hid (intRow w6 (.slice A5 1 c5) [4]):=zAC HR5.out fun b hb=>hb6.block b (zAJ HR5.out hb)
 have HB6:=Lib.hid (HB5.out.trans (hb6.mono HB5.out.size))
 have HR6:=Lib.hid (And.intro hr6 hr6')
 clear hb6 hr6 hr6';refine (zCV _ _ _ _ _ HR6.out.2 HR6.out.1 true rfl).mono ?_
 rintro e w7 ⟨rfl,hb7⟩;have HB7:=Lib.hid (HB6.out.trans (hb7.mono HB6.out.size))
 have HR7:Hid (intRow w7 (.slice A5 1 c5) [4]):=zAC HR5'.out fun b hb=>hb7.block b (zAJ HR5'.out hb)
 clear hb7
 go_wp2_with fail;obtain ⟨w8,hw8⟩:∃ w8,Hid (w7.alloc (.cells #[.int .i64 4] 3)=w8):=⟨_,rfl⟩
 rw [hw8.out];have hb8:Below w7.heap.size w7 w8:=by rw [← hw8.out];exact (Below.refl _ w7).alloc (Nat.le_refl _) _
 have hr8:intRow w8 (.slice (some ⟨w7.heap.size,0,none⟩) 1 1) [4]:=by rw [← hw8.out];exact zE9 (heap_alloc_new w7 _) (Nat.le_refl _) (by decide) rfl rfl
 have hr8':intRow w8 (.slice A5 1 c5) [4]:=zAC HR7.out fun b hb=>hb8.block b (zAJ HR7.out hb)
 have HB8:=Lib.hid (HB7.out.trans (hb8.mono HB7.out.size))
 refine (zCV _ _ _ _ _ hr8' hr8 true rfl).mono ?_
 rintro e w9 ⟨rfl,hb9⟩;have HB9:=Lib.hid (HB8.out.trans (hb9.mono HB8.out.size))
 clear hb8 hr8 hr8' hb9
 go_wp2_with fail
 go_ret;exact ⟨rfl,HB9.out⟩
end
section
def sPoint:StepD:=⟨8,4,[],[]⟩
def sAll:StepD:=⟨3,4,[],[]⟩
section
variable {f:Fo} {next:Int}
end
end
section
open Go.RowKit Go.Shelf
def StepsSl (w:World) (B:Nat) (A:Option Addr) (T:List QSlot):Prop:=0<T.length → ∃ a,A=some a∧a.block<B ∧ ∀ k s,T[k]? = some s → ∀ j u,(cellsS s)[j]? = some u→w.cell? (a.add (k * 4+j))=some u
def SlP (w:World) (B:Nat) (T:List QSlot):Prop:=∀ x∈T,PredsAt w B x.2.1 x.1.preds∧x.1.preds.length≤x.2.2
section
variable {w w':World} {B B':Nat} {A:Option Addr}
theorem StepsSl.keep {T:List QSlot} (h:StepsSl w B A T) (hk:∀ p:Addr,p.block<B→w'.cell? p=w.cell? p):StepsSl w' B A T:=fun hp=>by
 obtain ⟨a,h1,h2,h3⟩:=h hp
 exact ⟨a,h1,h2,fun k s hs j u hu=>(hk _ (by rw [zAD];exact h2)).trans (h3 k s hs j u hu)⟩
theorem StepsSl.below {T:List QSlot} (h:StepsSl w B A T) (hb:Below B w w'):StepsSl w' B A T:=h.keep fun _ hp=>hb.cell hp
theorem SlP.below {T:List QSlot} (h:SlP w B T) (hb:Below B w w'):SlP w' B T:=fun x hx=>⟨(h x hx).1.below hb,(h x hx).2⟩
theorem SlP.more {T:List QSlot} (h:SlP w B T) (hb:B≤B'):SlP w B' T:=fun x hx=>⟨(h x hx).1.more hb,(h x hx).2⟩
theorem SlP.app {S T:List QSlot} (h:SlP w B S) (h':SlP w B T):SlP w B (S++T):=fun x hx=>by
 rcases List.mem_append.1 hx with hx | hx
 ·exact h x hx
 ·exact h' x hx
theorem StepsOwn.atW {c:Nat} {S:List QSlot} (h:StepsOwn w 0 A c S) (hp:SlP w B S) (hB:B≤w.heap.size):StepsAt w w.heap.size A (S.map (·.1)):=fun hl=>by
 have hl':0<S.length:=by simpa using hl
 obtain ⟨g,rfl,hb,hg,_,hc⟩:=zBn cellsS zAj h hl'
 refine ⟨_,rfl,hg,fun k s hs=>?_⟩
 rw [List.getElem?_map] at hs;obtain ⟨x,hx,rfl⟩:=Option.map_eq_some_iff.1 hs
 have h1:=hp x (List.mem_of_getElem? hx)
 have e:∀ j u,(cellsS x)[j]? = some u→w.cell? ⟨g,k * 4+j,none⟩=some u:=fun j u hu=>by
  have:=hc k x j u hx hu
  rwa [zAm] at this
 refine ⟨x.2.1,x.2.2,h1.1.more hB,h1.2,?_⟩
 rw [zAm];exact ⟨e 0 _ rfl,e 1 _ rfl,e 2 _ rfl,e 3 _ rfl⟩
end
theorem zDZ (W:World) (A:Option Addr) (n c:Nat) (hnc:n≤c) (A':Option Addr) (c':Nat):(Builtin.append_ #[23,23] 23 #[.slice A n c,.slice A' 0 c']).run Tryz.prog W=.ok (.slice A n c) W:=by
 obtain ⟨i0,hi0,hz0,hz1,hz2⟩:=info_parts zDg
 have hf:(Builtin.firstCells i0.size 0 (Value.slice A' 0 c')).run Tryz.prog W=.ok #[] W:=by
  cases A' with
  | none=>exact run_firstCells_none _ _ _ _ _
  | some a=>exact run_firstCells_some W i0.size 0 a 0 c' [] (by simp) (fun j v h=>by simp at h)
 cases A with
 | none=>simp [Builtin.append_,run_underlying Tryz.underlying23,sizeOf,typeInfo,zeroValue,hi0,hz0,Builtin.lenOf,hf,hnc]
 | some a=>simp [Builtin.append_,run_underlying Tryz.underlying23,sizeOf,typeInfo,zeroValue,hi0,hz0,Builtin.lenOf,hf,hnc,storeCells]
theorem zBV {W:World} {A:Option Addr} {c B:Nat} {S0:List QSlot} (hown:StepsOwn W 0 A c S0) (T:List QSlot) (A':Option Addr) (cT:Nat) (hT:StepsSl W B A' T) (hl0:S0.length≤1000000) (hl1:T.length≤1000000) :
  ∃ pa pn pc w',(Builtin.append_ #[23,23] 23 #[.slice A S0.length c,.slice A' T.length cT]).run Tryz.prog W=.ok (.slice pa pn pc) w'∧pn=(S0++T).length∧StepsOwn w' 0 pa pc (S0++T)∧W.grownBy w' (Value.slice A S0.length c).ownBlock ∧
   ∀ b,(Value.slice pa (S0++T).length pc).ownBlock=some b→(Value.slice A S0.length c).ownBlock=some b∨W.heap.size≤b:=by
 by_cases h0:0<T.length
 ·obtain ⟨a,rfl,_,h3⟩:=hT h0
  have hlen:=zBj cellsS 4 zAj T
  obtain ⟨v',w',hr,hrow',hg',hf'⟩:=zAy (P:=Tryz.prog) W 23 23 45 (.agg #[.int .i64 0,.int .i64 0,.string ByteArray.empty,.slice none 0 0]) 4 56 Tryz.underlying23 zDg rfl (by decide) (by decide) _ _ _ hown a T.length cT (T.flatMap cellsS) h0 hlen (fun j u hj=>by
   have hj6:j<T.length * 4:=by rw [← hlen];exact (List.getElem?_eq_some_iff.1 hj).1
   obtain ⟨q,r,hr,rfl⟩:∃ q r,r<4∧j=q * 4+r:=⟨j / 4,j % 4,by omega,by omega⟩
   have hq:q<T.length:=by omega
   have hs:T[q]? = some T[q]:=List.getElem?_eq_getElem hq
   rw [zBd cellsS 4 zAj T q r _ hs hr] at hj;exact h3 q _ hs r u hj) (by
   intro u hu;obtain ⟨x,_,hx⟩:=List.mem_flatMap.1 hu
   exact zDG x u hx) (by omega) (by omega)
  obtain ⟨pa,pc,hv',_⟩:=zAR hrow'
  subst hv';refine ⟨pa,_,pc,w',hr,by simp,?_,hg',fun b hb=>hf' b (by simpa using hb)⟩
  unfold StepsOwn;rw [List.length_append,List.flatMap_append];exact hrow'
 ·have:T=[]:=List.length_eq_zero_iff.1 (by omega)
  subst this;obtain ⟨_,c',hv,hnc,_⟩:=zAR hown
  injection hv with hA _ hc
  subst hc;have:=zDZ W A S0.length c hnc A' cT
  exact ⟨A,S0.length,c,W,by simpa using this,by simp,by rw [List.append_nil];exact hown,⟨rfl,rfl,rfl,Nat.le_refl _,fun _ _ _=>rfl⟩,fun b hb=>.inl (by simpa using hb)⟩
theorem zKK {w:World} {b:Nat} (x:QSlot) (h:w.heap[b]? = some (.cells #[.int .i64 x.1.axis,.int .i64 x.1.test,.string ⟨x.1.name.toArray⟩,.slice x.2.1 x.1.preds.length x.2.2] 45 (0,0))):StepsSl w (b+1) (some ⟨b,0,none⟩) [x]:=fun _=>by
 refine ⟨_,rfl,Nat.lt_succ_self _,fun k s hs j u hu=>?_⟩
 have hk:k=0:=by have:=(List.getElem?_eq_some_iff.1 hs).1;simp at this;omega
 subst hk;simp at hs
 subst hs;rw [Nat.zero_mul,Nat.zero_add,zAI]
 match j,hu with
 | 0,hu=>simp [cellsS] at hu;subst hu;exact zAA h 0 _ rfl
 | 1,hu=>simp [cellsS] at hu;subst hu;exact zAA h 1 _ rfl
 | 2,hu=>simp [cellsS] at hu;subst hu;exact zAA h 2 _ rfl
 | 3,hu=>simp [cellsS] at hu;subst hu;exact zAA h 3 _ rfl
 | j+4,hu=>simp [cellsS] at hu
def slotC (x:QSlot):Array Value:=#[.int .i64 x.1.axis,.int .i64 x.1.test,.string ⟨x.1.name.toArray⟩,.slice x.2.1 x.1.preds.length x.2.2]
end
end Go.Proofs.YtcombcoilpmnkaaGreat

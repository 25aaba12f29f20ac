/-
  Texts of this claim, joined (by a program of the claim's author): WBelow, GGro2, WWit, WAbo, WBes, WRev, GCp.
-/
import Derived.Test.YtcombcoilpmnkaaGreatWF1
import Derived.Test.YtcombcoilpmnkaaGreatWF11
import Derived.Test.YtcombcoilpmnkaaGreatWF5
import Derived.Test.YtcombcoilpmnkaaGreatWF3
import Derived.Test.YtcombcoilpmnkaaGreatWF4
import Derived.Test.YtcombcoilpmnkaaGreatWF7
import Derived.Shelf.Slices.Reverse
import Derived.Maps.RangeWalk
namespace Go.Proofs.YtcombcoilpmnkaaGreat
set_option maxRecDepth 100000
set_option maxHeartbeats 16000000
section
open Go.RowKit Go.Shelf
attribute [local go_sem] Oper.semAt_some zJl zD9 zJm zB8 zJI zDt zJJ zB3 zB4 zB5 zB6
def treeIds (z:Int × NodeD × Fo):List Int:=z.1 :: z.2.2.ids
theorem zDy:∀ F:Fo,F.ids=F.trees.flatMap treeIds
 | .nil=>rfl
 | .cons id d ks r=>by simp [Fo.ids,Fo.trees,treeIds,zDy r]
def sIdx (ks:Fo) (i:Nat):Nat:=((ks.trees.take i).flatMap treeIds).length
theorem zKI (ks:Fo):sIdx ks 0=0:=by simp [sIdx]
theorem zKH {ks:Fo} {i:Nat} {z:Int × NodeD × Fo} (h:ks.trees[i]? = some z):sIdx ks (i+1)=sIdx ks i+1+z.2.2.ids.length:=by
 unfold sIdx;rw [List.take_add_one,h];simp [treeIds]
 omega
theorem zLS (ks:Fo):sIdx ks ks.roots.length=ks.ids.length:=by
 unfold sIdx;rw [zDy ks,List.take_of_length_le (by rw [← zBA,List.length_map];exact Nat.le_refl _)]
theorem zLT {ks:Fo} {i:Nat} {z:Int × NodeD × Fo} (h:ks.trees[i]? = some z):ks.ids[sIdx ks i]? = some z.1 ∧ ∀ (j:Nat) (y:Int),z.2.2.ids[j]? = some y→ks.ids[sIdx ks i+1+j]? = some y:=by
 have e:ks.ids=(ks.trees.take i).flatMap treeIds++(treeIds z++(ks.trees.drop (i+1)).flatMap treeIds):=by
  rw [zDy ks]
  conv=>lhs;rw [← List.take_append_drop i ks.trees,zAY h]
  simp
 unfold sIdx;refine ⟨?_,fun j y hj=>?_⟩
 ·rw [e,List.getElem?_append_right (Nat.le_refl _)]
  simp [treeIds]
 ·have hl:=(List.getElem?_eq_some_iff.1 hj).1
  rw [e,List.getElem?_append_right (by omega),show ((ks.trees.take i).flatMap treeIds).length+1+j-((ks.trees.take i).flatMap treeIds).length=j+1 by omega,List.getElem?_append_left (by simp [treeIds];exact hl)]
  simpa [treeIds] using hj
section
variable {M:Nat→Prop} {t:Nat} {f:Fo} {next:Int} {w w':World}
theorem zIG {x q:Int} {d:NodeD} {ks:Fo} (hx:x∈0 :: f.ids) (hg:gW f x=some ⟨q,d,ks.roots⟩)
  (hkids:∀ (j:Nat) (k:Int) (dk:NodeD) (kk:Fo),ks.trees[j]? = some (k,dk,kk) → ∀ (w:World) (bw bi:Nat),TreeM M t f next w→w.heap[bw]? = some (.cells #[treeI t] 82 (0,0))→w.heap[bi]? = some (.cells #[.int .i64 k] 3 (0,0)) →
   IterG Tryz.prog 112 #[.pointer (some ⟨bw,0,none⟩),.pointer (some ⟨bi,0,none⟩)] encI kk.ids (fun b=>M b∨b=bw∨b=bi) w)
  (w:World) (bw bi:Nat) (ht:TreeM M t f next w) (h1:w.heap[bw]? = some (.cells #[treeI t] 82 (0,0))) (h2:w.heap[bi]? = some (.cells #[.int .i64 x] 3 (0,0))) :
  IterG Tryz.prog 112 #[.pointer (some ⟨bw,0,none⟩),.pointer (some ⟨bi,0,none⟩)] encI ks.ids (fun b=>M b∨b=bw∨b=bi) w:=by
 intro n0 l J Jx W Fp0 hD hsz hC hJ hJx hY h0;have HC:=Lib.hid hC
 have HY:=Lib.hid hY
 have HJ:=Lib.hid hJ
 have HJX:=Lib.hid hJx
 have HX:=Lib.hid hx
 have HKIDS:=Lib.hid hkids
 have hkx:Hid (kidsW f x=ks.roots):=by show _=_;unfold kidsW;rw [zBU hg]
 have htW:TreeM M t f next W:=ht.keep (fun b hb=>(hD b (.inl hb)).2) hsz
 have g1:=(hD bw (.inr (.inl rfl))).2.trans h1
 have g2:=(hD bi (.inr (.inr rfl))).2.trans h2
 obtain ⟨W1,hW1⟩:∃ W1,Hid (W1=W.alloc (.cells #[.func (.yield l) #[] #[]] 171)):=⟨_,rfl⟩
 have hb1:Below W.heap.size W W1:=by rw [hW1.out];exact (Below.refl _ W).alloc (Nat.le_refl _) _
 have HYC1:Hid (W1.heap[W.heap.size]? = some (.cells #[.func (.yield l) #[] #[]] 171 (0,0))):=by show _=_;rw [hW1.out];exact heap_alloc_new W _
 have l1:=(Array.getElem?_eq_some_iff.1 g1).1
 have l2:=(Array.getElem?_eq_some_iff.1 g2).1
 have HG1:Hid (W1.heap[bw]? = some (.cells #[treeI t] 82 (0,0))):=(hb1.block bw l1).trans g1
 have HG2:Hid (W1.heap[bi]? = some (.cells #[.int .i64 x] 3 (0,0))):=(hb1.block bi l2).trans g2
 have HL12:Hid (bw<W.heap.size∧bi<W.heap.size):=⟨l1,l2⟩
 have HTW:=Lib.hid htW
 have HB1:=Lib.hid hb1
 have HJ1:Hid (J 0 Fp0 W1):=hJ 0 Fp0 W W1 h0 (Keep.of_below hb1)
 have f1:=zAA HG1.out 0 _ rfl
 have f2:=zAA HG2.out 0 _ rfl
 unfold treeI at f1;rw [hW1.out] at f1 f2;clear hD hsz hC hY hJ hJx h0 ht h1 h2 htW g1 g2 hx hkids hb1 l1 l2;refine callsIn_of_wp_marks Tryz.func112 rfl trivial ?_ rfl
 simp only [Tryz.ntmps112,List.size_toArray,List.length_cons,List.length_nil,Nat.reduceAdd,Nat.reduceSub,Array.replicate_succ,Array.replicate_zero,List.push_toArray,List.append_toArray,List.nil_append,List.cons_append]
 gi_wp2
 rw [← hW1.out];clear f1 f2;refine ⟨trivial,fun h=>(by cases h),?_⟩
 refine (callsIn_wide.2 (zCJ W1 t x)).mono ?_
 rintro e w2 ⟨rfl,rfl⟩;obtain ⟨w2,hw2⟩:∃ w2,Hid (caps t x W1=w2):=⟨_,rfl⟩
 rw [hw2.out];have hb2:Below W1.heap.size W1 w2:=by rw [← hw2.out];exact zAq t x W1
 have hz2:w2.heap.size=W1.heap.size+2:=by rw [← hw2.out];exact zAu t x W1
 have q1:w2.heap[W1.heap.size]? = some (.cells #[treeI t] 82 (0,0)):=by rw [← hw2.out];exact zCq t x W1
 have q2:w2.heap[W1.heap.size+1]? = some (.cells #[.int .i64 x] 3 (0,0)):=by rw [← hw2.out];exact zCp t x W1
 have hT2:TreeM M t f next w2:=(HTW.out.below HB1.out).below hb2
 have hit:=zCv HX.out w2 W1.heap.size (W1.heap.size+1) hT2 q1 q2
 rw [hkx.out] at hit;have HIT:=Lib.hid hit.toE
 have HB2:Hid (Below W.heap.size W w2):=HB1.out.trans (hb2.mono HB1.out.size)
 have HZ2:=Lib.hid hz2
 have HYC2:Hid (w2.heap[W.heap.size]? = some (.cells #[.func (.yield l) #[] #[]] 171 (0,0))):=(hb2.block _ (Array.getElem?_eq_some_iff.1 HYC1.out).1).trans HYC1.out
 have hsz1:W.heap.size<W1.heap.size:=(Array.getElem?_eq_some_iff.1 HYC1.out).1
 have HG1':Hid (w2.heap[bw]? = some (.cells #[treeI t] 82 (0,0))):=(hb2.block _ (Array.getElem?_eq_some_iff.1 HG1.out).1).trans HG1.out
 have HT2:=Lib.hid hT2
 have HJ2:Hid (J 0 Fp0 w2):=HJ.out 0 Fp0 W1 w2 HJ1.out ((Keep.of_below hb2).mono fun b hb=>hb)
 have notD:∀ (Fp:Nat→Prop),(∀ b,Fp b→Fp0 b∨w2.heap.size≤b) → ∀ b,b<w2.heap.size→(M b∨b=bw∨b=bi∨W.heap.size≤b) → ¬ Fp b:=by
  intro Fp hF b hb hd hf;rcases hF b hf with h | h
  ·obtain ⟨r1,r2⟩:=HC.out b h
   rcases hd with hd | rfl | rfl | hd
   ·exact r2 (.inl hd)
   ·exact r2 (.inr (.inl rfl))
   ·exact r2 (.inr (.inr rfl))
   ·omega
  ·omega
 have ND:=Lib.hid notD
 clear hb2 hz2 q1 q2 hT2 hit notD;unfold closV
 gi_wp2
 refine zE8 (gf:=110) (lb:=#[.pointer (some ⟨W1.heap.size,0,none⟩),.pointer (some ⟨W1.heap.size+1,0,none⟩)]) rfl (enters_of Tryz.func110 (by kernel_rfl) rfl)
  HIT.out (fun _ h=>h.elim) (fun b hb=>⟨?dlt,rfl⟩) (Nat.le_refl _) (fun _=>rfl) Fp0 (fun b hb=>⟨?clt,?cnd⟩)
  (fun i Fq W'=>J (sIdx ks i) Fq W'∧Grows Fp0 Fq w2 W')
  (fun c Fq W'=>c=.ret∧Jx Fq W'∧Grows Fp0 Fq w2 W')
  ?sI ?sX ⟨by rw [zKI];exact HJ2.out,Grows.refl Fp0 w2⟩
  (fun y=>{ tmps:=#[Value.func (Fn.yield l) #[] #[],Value.pointer (some ⟨bw,0,none⟩),Value.pointer (some ⟨bi,0,none⟩),Value.pointer (some ⟨W.heap.size,0,none⟩),Value.int .i64 y,undef,Value.agg #[Value.iface 24 (Value.pointer (some ⟨t,0,none⟩))],Value.int .i64 x,Value.func (.func 110) #[] #[Value.pointer (some ⟨W1.heap.size,0,none⟩),Value.pointer (some ⟨W1.heap.size+1,0,none⟩)],Value.int .i64 y,undef,undef,undef,undef,undef,undef,undef,undef,undef,undef,undef,undef],defers:=[] }) ?assign ?body ?done ?stop
 case dlt =>
  rcases hb with hb | rfl | rfl
  ·exact HT2.out.lt hb
  ·have:=HZ2.out;omega
  ·have:=HZ2.out;omega
 case clt=>have:=(HC.out b hb).1;have:=HB2.out.size;omega
 case cnd =>
  obtain ⟨r1,r2⟩:=HC.out b hb
  rintro (h | rfl | rfl)
  ·exact r2 (.inl h)
  ·omega
  ·omega
 case sI =>
  rintro i Fq A B ⟨r1,r2⟩ hAB;have hk:Keep w2.heap.size Fq A B:=hAB.mono fun b hb=>hb.elim id False.elim
  exact ⟨HJ.out _ Fq A B r1 (hk.mono fun b hb=>⟨by have:=HB2.out.size;omega,hb.2⟩),zA1 r2 (Nat.le_refl _) hk⟩
 case sX =>
  rintro c Fq A B ⟨r0,r1,r2⟩ hAB;have hk:Keep w2.heap.size Fq A B:=hAB.mono fun b hb=>hb.elim id False.elim
  exact ⟨r0,HJX.out Fq A B r1 (hk.mono fun b hb=>⟨by have:=HB2.out.size;omega,hb.2⟩),zA1 r2 (Nat.le_refl _) hk⟩
 case assign =>
  intro l' y W' K hK
  dsimp only [encI]
  gi_wp2
  exact hK
 case body =>
  rintro l' i y Fp W' hx ⟨hJ3,hG3⟩ hW' hFp hll hrec hnl;obtain ⟨z0,hz0⟩:∃ z0,Hid (ks.trees[i]? = some z0):=by
   have hil:i<ks.trees.length:=by
    have:=(List.getElem?_eq_some_iff.1 hx).1
    rw [← zBA,List.length_map] at this;exact this
   exact ⟨ks.trees[i],List.getElem?_eq_getElem hil⟩
  have hy0:y=z0.1:=by
   rw [← zBA,List.getElem?_map,hz0.out] at hx
   simpa using hx.symm
  obtain ⟨k,dk,kk⟩:=z0
  obtain rfl:y=k:=hy0
  obtain ⟨gy,gz⟩:=zLT hz0.out
  have HGZ:=Lib.hid gz
  have hsx:=zKH hz0.out
  have HSX:=Lib.hid hsx
  have nD:=ND.out Fp hG3.2
  have nF0:=ND.out Fp0 (fun b hb=>.inl hb)
  have lY:=(Array.getElem?_eq_some_iff.1 HYC2.out).1
  have lW:=(Array.getElem?_eq_some_iff.1 HG1'.out).1
  have hYw:=(hG3.1.block _ lY (nF0 _ lY (.inr (.inr (.inr (Nat.le_refl _)))))).trans HYC2.out
  have hWw:=(hG3.1.block _ lW (nF0 _ lW (.inr (.inl rfl)))).trans HG1'.out
  have f3:=zAA hYw 0 _ rfl
  have HWW:=Lib.hid hWw
  have HYW:=Lib.hid hYw
  have HG3:=Lib.hid hG3
  have HFP:=Lib.hid hFp
  have HNL:=Lib.hid hnl
  have HREC:=Lib.hid hrec
  have HND:Hid (∀ b,b<w2.heap.size→(M b∨b=bw∨b=bi∨W.heap.size≤b) → ¬ Fp b):=nD
  have HWS:=Lib.hid hW'
  have HLW:Hid (W.heap.size<w2.heap.size∧bw<w2.heap.size):=⟨lY,lW⟩
  obtain ⟨fn',tmps',assign',body',hy',hR'⟩:=HY.out (sIdx ks i) y Fp W' gy hJ3 (by have:=HB2.out.size;omega) hFp
  have HR':=Lib.hid hR'
  dsimp only [encI] at hy'
  clear hx hJ3 hG3 hFp hrec hnl gy gz hsx nD nF0 lY lW hYw hWw hR' hll
  gi_wp2
  refine ⟨fun h=>(by cases h),?_⟩
  refine (RoundIn.inR l' HR'.out).mono ?_
  rintro e W5 (⟨rfl,Fp5,hG5,hB5,hJ5⟩ | ⟨rfl,hL5⟩)
  ·obtain ⟨r,hr⟩:=HREC.out
   have hr5:=(hG5.1.block l' (Array.getElem?_eq_some_iff.1 hr).1 HNL.out).trans hr
   have hw5:=(hG5.1.block bw (Array.getElem?_eq_some_iff.1 HWW.out).1 (HND.out bw HLW.out.2 (.inr (.inl rfl)))).trans HWW.out
   have hy5:=(hG5.1.block W.heap.size (Array.getElem?_eq_some_iff.1 HYW.out).1 (HND.out _ HLW.out.1 (.inr (.inr (.inr (Nat.le_refl _)))))).trans HYW.out
   have hT5:TreeM M t f next W5:=HT2.out.keep (fun b hb=>by
    have hlt:=HT2.out.lt hb
    exact (hG5.1.block b (by have:=HWS.out;omega) (HND.out b hlt (.inl hb))).trans (HG3.out.1.block b hlt fun hf=>(HC.out b hf).2 (.inl hb))) (by have:=HWS.out;have:=hG5.1.size;omega)
   have f1:=zAA hw5 0 _ rfl
   unfold treeI at f1;have HR5:=Lib.hid hr5
   have HY5:=Lib.hid hy5
   have HT5:=Lib.hid hT5
   have HG5:=Lib.hid hG5
   have HB5:=Lib.hid hB5
   have HJ5:=Lib.hid hJ5
   clear hr hr5 hw5 hy5 hT5 hG5 hB5 hJ5 hy' f3
   gi_wp2
   refine ⟨trivial,fun h=>(by cases h),?_⟩
   refine (callsIn_wide.2 (zB2 W5 t y)).mono ?_
   rintro e w6' ⟨rfl,rfl⟩;obtain ⟨w6,hw6⟩:∃ w6,Hid (caps t y W5=w6):=⟨_,rfl⟩
   rw [hw6.out];have hb6:Below W5.heap.size W5 w6:=by rw [← hw6.out];exact zAq t y W5
   have hz6:w6.heap.size=W5.heap.size+2:=by rw [← hw6.out];exact zAu t y W5
   have q1:w6.heap[W5.heap.size]? = some (.cells #[treeI t] 82 (0,0)):=by rw [← hw6.out];exact zCq t y W5
   have q2:w6.heap[W5.heap.size+1]? = some (.cells #[.int .i64 y] 3 (0,0)):=by rw [← hw6.out];exact zCp t y W5
   have hT6:=HT5.out.below hb6
   have hit:=HKIDS.out i y dk kk hz0.out w6 W5.heap.size (W5.heap.size+1) hT6 q1 q2
   have HIT6:=Lib.hid hit
   have HT6:=Lib.hid hT6
   have HZ6:=Lib.hid hz6
   have HR6:Hid (w6.heap[l']? = some (.loop r)):=(hb6.block l' (Array.getElem?_eq_some_iff.1 HR5.out).1).trans HR5.out
   have HY6:Hid (w6.heap[W.heap.size]? = some (.cells #[.func (.yield l) #[] #[]] 171 (0,0))):=(hb6.block _ (Array.getElem?_eq_some_iff.1 HY5.out).1).trans HY5.out
   have HJ6:Hid (J (sIdx ks i+1) Fp5 w6):=HJ.out _ Fp5 W5 w6 HJ5.out ((Keep.of_below hb6).mono fun b hb=>hb)
   have HG6:Hid (Grows Fp Fp5 W' w6):=HG5.out.trans (Grows.of_below hb6)
   have HM5:Hid (∀ b,Fp5 b → ¬ M b):=fun b hb hm=>by
    have hlt:=HT2.out.lt hm
    rcases HG5.out.2 b hb with h | h
    ·exact HND.out b hlt (.inl hm) h
    ·have:=HWS.out;omega
   clear hb6 hz6 q1 q2 hT6 hit f1;unfold closV
   gi_wp2
   refine zIn HR6.out (gf:=112) (lb:=#[.pointer (some ⟨W5.heap.size,0,none⟩),.pointer (some ⟨W5.heap.size+1,0,none⟩)]) rfl (enters_of Tryz.func112 (by kernel_rfl) rfl)
    HIT6.out (fun b hb=>⟨?idlt,rfl⟩) (Nat.le_refl _) (fun _=>rfl) Fp5 (fun b hb=>⟨?iclt,?icnd⟩)
    (fun j Fq V=>J (sIdx ks i+1+j) Fq V∧Grows Fp Fq W' V)
    (fun c Fq V=>c=.ret∧Jx Fq V∧Grows Fp Fq W' V)
    ?isI ?isX ⟨HJ6.out,HG6.out⟩
    (fun z=>{ tmps:=#[Value.func (Fn.yield l) #[] #[],Value.pointer (some ⟨bw,0,none⟩),Value.pointer (some ⟨bi,0,none⟩),Value.pointer (some ⟨W.heap.size,0,none⟩),Value.int .i64 y,Value.int .i64 z,Value.agg #[Value.iface 24 (Value.pointer (some ⟨t,0,none⟩))],Value.int .i64 x,Value.func (.func 110) #[] #[Value.pointer (some ⟨W1.heap.size,0,none⟩),Value.pointer (some ⟨W1.heap.size+1,0,none⟩)],Value.int .i64 y,Value.func (Fn.yield l) #[] #[],Value.int .i64 y,Value.bool true,Value.bool false,Value.agg #[Value.iface 24 (Value.pointer (some ⟨t,0,none⟩))],Value.int .i64 y,Value.func (.func 112) #[] #[Value.pointer (some ⟨W5.heap.size,0,none⟩),Value.pointer (some ⟨W5.heap.size+1,0,none⟩)],Value.int .i64 z,undef,undef,undef,undef],defers:=[] }) ?iassign ?ibody ?idone ?istop
   case idlt =>
    rcases hb with hb | rfl | rfl
    ·exact HT6.out.lt hb
    ·have:=HZ6.out;omega
    ·have:=HZ6.out;omega
   case iclt=>have:=HB5.out b hb;have:=HZ6.out;omega
   case icnd =>
    have hlt':=HB5.out b hb
    rintro (h | rfl | rfl)
    ·exact HM5.out b hb h
    ·omega
    ·omega
   case isI =>
    rintro j Fq A B ⟨r1,r2⟩ hAB;exact ⟨HJ.out _ Fq A B r1 (hAB.mono fun b hb=>⟨by have:=HG6.out.1.size;have:=HWS.out;have:=HB2.out.size;omega,hb.2⟩),zA1 r2 HG6.out.1.size hAB⟩
   case isX =>
    rintro c Fq A B ⟨r0,r1,r2⟩ hAB;exact ⟨r0,HJX.out Fq A B r1 (hAB.mono fun b hb=>⟨by have:=HG6.out.1.size;have:=HWS.out;have:=HB2.out.size;omega,hb.2⟩),zA1 r2 HG6.out.1.size hAB⟩
   case iassign =>
    intro l2 z V K hK
    dsimp only [encI]
    gi_wp2
    exact hK
   case ibody =>
    rintro l2 j z Fq V hx ⟨r1,r2⟩ hV hFq;have hYv:=(r2.1.block W.heap.size (Array.getElem?_eq_some_iff.1 HYW.out).1 (HND.out _ HLW.out.1 (.inr (.inr (.inr (Nat.le_refl _)))))).trans HYW.out
    have fy:=zAA hYv 0 _ rfl
    obtain ⟨fn2,tmps2,assign2,body2,hy2,hR2⟩:=HY.out (sIdx ks i+1+j) z Fq V (HGZ.out j z hx) r1 (by have:=r2.1.size;have:=HWS.out;have:=HB2.out.size;omega) hFq
    have HR2:=Lib.hid hR2
    have HQ2:=Lib.hid r2
    dsimp only [encI] at hy2
    clear hx r1 r2 hV hFq hYv hR2
    gi_wp2
    refine ⟨fun h=>(by cases h),?_⟩
    refine (RoundIn.inR l2 HR2.out).mono ?_
    rintro e V5 (⟨rfl,hL⟩ | ⟨rfl,hL⟩)
    ·have HL:=Lib.hid hL
     clear hL
     gi_wp2
     obtain ⟨Fr,s1,s2,s3⟩:=HL.out
     exact ⟨Fr,s1,s2,s3,HQ2.out.trans s1⟩
    ·have HL:=Lib.hid hL
     clear hL
     gi_wp2
     obtain ⟨Fr,s1,s2,s3⟩:=HL.out
     exact ⟨Fr,s1,s2,rfl,s3,HQ2.out.trans s1⟩
   case idone =>
    rintro W7 ⟨Fq,s1,s2,s3,s4⟩;have HF:Hid (Left Fp W' (fun Fq V=>J (sIdx ks (i+1)) Fq V∧Grows Fp0 Fq w2 V) W7):=⟨Fq,s4,s2,by rw [HSX.out];exact s3,HG3.out.trans s4⟩
    clear s1 s2 s3 s4
    gi_wp2
    exact HF.out
   case istop =>
    rintro c W7 ⟨Fq,s1,s2,rfl,s3,s4⟩;have HF:Hid (Left Fp W' (fun Fq V=>Jx Fq V∧Grows Fp0 Fq w2 V) W7):=⟨Fq,s4,s2,s3,HG3.out.trans s4⟩
    clear s1 s2 s3 s4
    gi_wp2
    obtain ⟨Fr,s1,s2,s3,s4⟩:=HF.out
    exact ⟨Fr,s1,s2,rfl,s3,s4⟩
  ·have HL5:=Lib.hid hL5
   clear hL5 hy' f3
   gi_wp2
   obtain ⟨Fr,s1,s2,s3⟩:=HL5.out
   exact ⟨Fr,s1,s2,rfl,s3,HG3.out.trans s1⟩
 case done =>
  rintro W5 ⟨Fq,r1,r2,⟨q1,q2⟩,qn⟩ hK5;have HF:Hid (J ks.ids.length Fq W5):=by
   show J _ _ _
   rw [← zLS];exact q1
  have HG5:Hid (Grows Fp0 Fq W W5):=(Grows.of_below HB2.out).trans q2
  have HR2:=Lib.hid r2
  have HQN:=Lib.hid qn
  have HK5:=Lib.hid hK5
  clear r1 r2 q1 q2 qn hK5
  gi_wp2
  refine zAO [w2.heap.size] W5 (by simp) (fun b hb=>by rw [List.mem_singleton.1 hb];exact HK5.out) (fun w' hw'=>⟨_,results_none rfl _ _ _,⟨_,rfl⟩,.inl ?_⟩)
  exact zAo HG5.out HR2.out (fun b hb=>by rw [List.mem_singleton.1 hb];exact ⟨HB2.out.size,HB2.out.size⟩) (fun b hb=>by rw [List.mem_singleton.1 hb];exact HQN.out) hw' (HJ.out _ Fq) HF.out
 case stop =>
  rintro c W5 ⟨Fq,r1,r2,⟨rfl,q1,q2⟩,qn⟩ hK5;have HF:=Lib.hid q1
  have HG5:Hid (Grows Fp0 Fq W W5):=(Grows.of_below HB2.out).trans q2
  have HR2:=Lib.hid r2
  have HQN:=Lib.hid qn
  have HK5:=Lib.hid hK5
  clear r1 r2 q1 q2 qn hK5
  gi_wp2
  refine zAO [w2.heap.size] W5 (by simp) (fun b hb=>by rw [List.mem_singleton.1 hb];exact HK5.out) (fun w' hw'=>⟨_,results_none rfl _ _ _,⟨_,rfl⟩,.inr ?_⟩)
  exact zAo HG5.out HR2.out (fun b hb=>by rw [List.mem_singleton.1 hb];exact ⟨HB2.out.size,HB2.out.size⟩) (fun b hb=>by rw [List.mem_singleton.1 hb];exact HQN.out) hw' (HJX.out Fq) HF.out
theorem zDF (hwf:InvF f next):∀ (F:Fo) (q:Int),Agr (gW f) q F→(∀ y∈F.ids,y∈0 :: f.ids) → ∀ (j:Nat) (x:Int) (d:NodeD) (ks:Fo),F.trees[j]? = some (x,d,ks) →
  ∀ (w:World) (bw bi:Nat),TreeM M t f next w→w.heap[bw]? = some (.cells #[treeI t] 82 (0,0))→w.heap[bi]? = some (.cells #[.int .i64 x] 3 (0,0)) →
   IterG Tryz.prog 112 #[.pointer (some ⟨bw,0,none⟩),.pointer (some ⟨bi,0,none⟩)] encI ks.ids (fun b=>M b∨b=bw∨b=bi) w
 | .nil,q,_,_,j,x,d,ks,h=>by simp [Fo.trees] at h
 | .cons id0 d0 ks0 r,q,ha,hm,0,x,d,ks,h=>by
  simp only [Fo.trees,List.getElem?_cons_zero,Option.some.injEq,Prod.mk.injEq] at h;obtain ⟨rfl,rfl,rfl⟩:=h
  exact zIG (hm id0 (by simp [Fo.ids])) ha.1 (fun j k dk kk hk=>zDF hwf ks0 id0 ha.2.1 (fun y hy=>hm y (by simp [Fo.ids,hy])) j k dk kk hk)
 | .cons id0 d0 ks0 r,q,ha,hm,j+1,x,d,ks,h=>by
  simp only [Fo.trees,List.getElem?_cons_succ] at h;exact zDF hwf r q ha.2.2 (fun y hy=>hm y (by simp [Fo.ids,hy])) j x d ks h
theorem zF7 (hwf:InvF f next) {x:Int} (hx:x∈0 :: f.ids) (w:World) (bw bi:Nat) (ht:TreeM M t f next w) (h1:w.heap[bw]? = some (.cells #[treeI t] 82 (0,0))) (h2:w.heap[bi]? = some (.cells #[.int .i64 x] 3 (0,0))) :
  IterG Tryz.prog 112 #[.pointer (some ⟨bw,0,none⟩),.pointer (some ⟨bi,0,none⟩)] encI (belowW f x) (fun b=>M b∨b=bw∨b=bi) w:=by
 obtain ⟨q',F',j,d,a1,a2,a3,_,_,a6⟩:=Fo.below_at (Dw f) 0 x (zBX hwf) (by rw [zBG];exact hx) (zLe hwf)
 exact zDF hwf F' q' a1 (fun y hy=>by have:=a6 y hy;rwa [zBG] at this) j x d _ a2 w bw bi ht h1 h2
end
end
section
open Go.RowKit Go.Shelf
def IntsAt (w:World) (B:Nat) (A:Option Addr) (l:List Int):Prop:=0<l.length → ∃ ad,A=some ad∧ad.block<B ∧ ∀ (k:Nat) (x:Int),l[k]? = some x→w.cell? (ad.add k)=some (.int .i64 x)
theorem IntsAt.keep {w w':World} {B:Nat} {A:Option Addr} {l:List Int} (h:IntsAt w B A l) (hk:∀ p:Addr,p.block<B→w'.cell? p=w.cell? p):IntsAt w' B A l:=fun hp=>by
 obtain ⟨ad,h1,h2,h3⟩:=h hp
 exact ⟨ad,h1,h2,fun k x hx=>(hk _ (by rw [zAD];exact h2)).trans (h3 k x hx)⟩
theorem IntsAt.more {w:World} {B B':Nat} {A:Option Addr} {l:List Int} (h:IntsAt w B A l) (hB:B≤B'):IntsAt w B' A l:=fun hp=>by
 obtain ⟨ad,h1,h2,h3⟩:=h hp
 exact ⟨ad,h1,by omega,h3⟩
theorem IntsAt.below {w w':World} {B:Nat} {A:Option Addr} {l:List Int} (h:IntsAt w B A l) (hb:Below B w w'):IntsAt w' B A l:=h.keep fun _ hp=>hb.cell hp
section
variable {w:World} {t mb:Nat} {y:Lay} {g:Int→Option Ent} {root next:Int} {n:Nat}
end
end
section
open Go.RowKit Go.Shelf
attribute [local go_sem] Oper.semAt_some zJl zD9 zJm zB8 zJI zDt zJJ zB3 zB4 zB5 zB6
section
variable {M:Nat→Prop} {t:Nat} {f:Fo} {next:Int} {w w':World}
theorem zGv (w:World) (t:Nat) (x:Int):Calls Tryz.prog 83 #[.agg #[treeI t],.int .i64 x] w fun e w'=>e=.returned (closV 113 (w.heap.size+1) w.heap.size)∧w'=caps t x w:=by
 unfold treeI
 go_enter Tryz.func83,Tryz.ntmps83
 go_wp2_with fail
 go_ret;exact ⟨rfl,rfl⟩
theorem zHX (hwf:InvF f next) {x:Int} (hx:x∈0 :: f.ids) (w:World) (bw bi:Nat) (ht:TreeM M t f next w) (h1:w.heap[bw]? = some (.cells #[treeI t] 82 (0,0))) (h2:w.heap[bi]? = some (.cells #[.int .i64 x] 3 (0,0))) :
  IterG Tryz.prog 113 #[.pointer (some ⟨bi,0,none⟩),.pointer (some ⟨bw,0,none⟩)] encI (x :: belowW f x) (fun b=>M b∨b=bw∨b=bi) w:=by
 intro n0 l J Jx W Fp0 hD hsz hC hJ hJx hY h0;have HC:=Lib.hid hC
 have HY:=Lib.hid hY
 have HJ:=Lib.hid hJ
 have HJX:=Lib.hid hJx
 have HX:=Lib.hid hx
 have HWF:=Lib.hid hwf
 have htW:TreeM M t f next W:=ht.keep (fun b hb=>(hD b (.inl hb)).2) hsz
 have g1:=(hD bw (.inr (.inl rfl))).2.trans h1
 have g2:=(hD bi (.inr (.inr rfl))).2.trans h2
 obtain ⟨W1,hW1⟩:∃ W1,Hid (W1=W.alloc (.cells #[.func (.yield l) #[] #[]] 171)):=⟨_,rfl⟩
 have hb1:Below W.heap.size W W1:=by rw [hW1.out];exact (Below.refl _ W).alloc (Nat.le_refl _) _
 have HYC1:Hid (W1.heap[W.heap.size]? = some (.cells #[.func (.yield l) #[] #[]] 171 (0,0))):=by show _=_;rw [hW1.out];exact heap_alloc_new W _
 have l1:=(Array.getElem?_eq_some_iff.1 g1).1
 have l2:=(Array.getElem?_eq_some_iff.1 g2).1
 have HG1:Hid (W1.heap[bw]? = some (.cells #[treeI t] 82 (0,0))):=(hb1.block bw l1).trans g1
 have HG2:Hid (W1.heap[bi]? = some (.cells #[.int .i64 x] 3 (0,0))):=(hb1.block bi l2).trans g2
 have HT1:Hid (TreeM M t f next W1):=htW.below hb1
 have HB1:=Lib.hid hb1
 have HJ1:Hid (J 0 Fp0 W1):=hJ 0 Fp0 W W1 h0 (Keep.of_below hb1)
 have notD:∀ (Fp:Nat→Prop),(∀ b,Fp b→Fp0 b∨W1.heap.size≤b) → ∀ b,b<W1.heap.size→(M b∨b=bw∨b=bi∨W.heap.size≤b) → ¬ Fp b:=by
  intro Fp hF b hb hd hf;rcases hF b hf with h | h
  ·obtain ⟨r1,r2⟩:=hC b h
   rcases hd with hd | rfl | rfl | hd
   ·exact r2 (.inl hd)
   ·exact r2 (.inr (.inl rfl))
   ·exact r2 (.inr (.inr rfl))
   ·omega
  ·omega
 have ND:=Lib.hid notD
 have f2:=zAA HG2.out 0 _ rfl
 have f3:=zAA HYC1.out 0 _ rfl
 obtain ⟨fn',tmps',assign',body',hy',hR'⟩:=hY 0 x Fp0 W1 rfl HJ1.out hb1.size (fun b hb=>by have:=(hC b hb).1;have:=hb1.size;omega)
 have HR':=Lib.hid hR'
 dsimp only [encI] at hy'
 rw [hW1.out] at f2 f3 hy';clear hD hsz hC hY hJ hJx h0 ht h1 h2 htW g1 g2 hx hb1 l1 l2 notD hwf hR';refine callsIn_of_wp_marks Tryz.func113 rfl trivial ?_ rfl
 simp only [Tryz.ntmps113,List.size_toArray,List.length_cons,List.length_nil,Nat.reduceAdd,Nat.reduceSub,Array.replicate_succ,Array.replicate_zero,List.push_toArray,List.append_toArray,List.nil_append,List.cons_append]
 gi_wp2
 refine ⟨fun h=>(by cases h),?_⟩
 rw [← hW1.out];refine (RoundIn.anyD HR'.out).mono ?_
 rintro e W3 (⟨rfl,Fp3,hG3,hB3,hJ3⟩ | ⟨rfl,Fp3,hG3,hB3,hx3⟩)
 ·have nD:=ND.out Fp0 fun b hb=>.inl hb
  have k1:=(hG3.1.block bw (Array.getElem?_eq_some_iff.1 HG1.out).1 (nD _ (Array.getElem?_eq_some_iff.1 HG1.out).1 (.inr (.inl rfl)))).trans HG1.out
  have k2:=(hG3.1.block bi (Array.getElem?_eq_some_iff.1 HG2.out).1 (nD _ (Array.getElem?_eq_some_iff.1 HG2.out).1 (.inr (.inr (.inl rfl))))).trans HG2.out
  have k3:=(hG3.1.block W.heap.size (Array.getElem?_eq_some_iff.1 HYC1.out).1 (nD _ (Array.getElem?_eq_some_iff.1 HYC1.out).1 (.inr (.inr (.inr (Nat.le_refl _)))))).trans HYC1.out
  have ht3:TreeM M t f next W3:=HT1.out.keep (fun b hb=>hG3.1.block b (HT1.out.lt hb) (nD b (HT1.out.lt hb) (.inl hb))) hG3.1.size
  have f1:=zAA k1 0 _ rfl
  have f2:=zAA k2 0 _ rfl
  unfold treeI at f1;have HT3:=Lib.hid ht3
  have HY3:=Lib.hid k3
  have HG3:=Lib.hid hG3
  have HB3:=Lib.hid hB3
  have HJ3:=Lib.hid hJ3
  clear nD k1 k2 k3 ht3 hG3 hB3 hJ3 hy' f3
  gi_wp2
  refine ⟨trivial,fun h=>(by cases h),?_⟩
  refine (callsIn_wide.2 (zB2 W3 t x)).mono ?_
  rintro e w6' ⟨rfl,rfl⟩;obtain ⟨w6,hw6⟩:∃ w6,Hid (caps t x W3=w6):=⟨_,rfl⟩
  rw [hw6.out];have hb6:Below W3.heap.size W3 w6:=by rw [← hw6.out];exact zAq t x W3
  have hz6:w6.heap.size=W3.heap.size+2:=by rw [← hw6.out];exact zAu t x W3
  have q1:w6.heap[W3.heap.size]? = some (.cells #[treeI t] 82 (0,0)):=by rw [← hw6.out];exact zCq t x W3
  have q2:w6.heap[W3.heap.size+1]? = some (.cells #[.int .i64 x] 3 (0,0)):=by rw [← hw6.out];exact zCp t x W3
  have hT6:=HT3.out.below hb6
  have HIT6:=Lib.hid (zF7 HWF.out HX.out w6 W3.heap.size (W3.heap.size+1) hT6 q1 q2)
  have HT6:=Lib.hid hT6
  have HZ6:=Lib.hid hz6
  have HY6:Hid (w6.heap[W.heap.size]? = some (.cells #[.func (.yield l) #[] #[]] 171 (0,0))):=(hb6.block _ (Array.getElem?_eq_some_iff.1 HY3.out).1).trans HY3.out
  have HJ6:Hid (J (0+1) Fp3 w6):=HJ.out _ Fp3 W3 w6 HJ3.out ((Keep.of_below hb6).mono fun b hb=>hb)
  have HG6:Hid (Grows Fp0 Fp3 W1 w6):=HG3.out.trans (Grows.of_below hb6)
  have HM3:Hid (∀ b,Fp3 b → ¬ M b):=fun b hb hm=>ND.out Fp3 HG3.out.2 b (HT1.out.lt hm) (.inl hm) hb
  have HYN:Hid (W.heap.size<W1.heap.size ∧ ∀ Fp:Nat→Prop,(∀ b,Fp b→Fp0 b∨W1.heap.size≤b) → ¬ Fp W.heap.size):=⟨(Array.getElem?_eq_some_iff.1 HYC1.out).1,fun Fp hF=>ND.out Fp hF _ (Array.getElem?_eq_some_iff.1 HYC1.out).1 (.inr (.inr (.inr (Nat.le_refl _))))⟩
  clear hb6 hz6 q1 q2 hT6 f1 f2;unfold closV
  gi_wp2
  refine zCE (gf:=112) (lb:=#[.pointer (some ⟨W3.heap.size,0,none⟩),.pointer (some ⟨W3.heap.size+1,0,none⟩)]) rfl (enters_of Tryz.func112 (by kernel_rfl) rfl)
   HIT6.out (fun b hb=>⟨?idlt,rfl⟩) (Nat.le_refl _) (fun _=>rfl) Fp3 (fun b hb=>⟨?iclt,?icnd⟩)
   (fun j Fq V=>J (1+j) Fq V∧Grows Fp0 Fq W1 V)
   (fun c Fq V=>c=.ret∧Jx Fq V∧Grows Fp0 Fq W1 V)
   ?isI ?isX ⟨HJ6.out,HG6.out⟩
   (fun y=>{ tmps:=#[Value.func (Fn.yield l) #[] #[],Value.pointer (some ⟨bi,0,none⟩),Value.pointer (some ⟨bw,0,none⟩),Value.pointer (some ⟨W.heap.size,0,none⟩),Value.int .i64 y,Value.func (Fn.yield l) #[] #[],Value.int .i64 x,Value.bool true,Value.bool false,Value.agg #[Value.iface 24 (Value.pointer (some ⟨t,0,none⟩))],Value.int .i64 x,Value.func (.func 112) #[] #[Value.pointer (some ⟨W3.heap.size,0,none⟩),Value.pointer (some ⟨W3.heap.size+1,0,none⟩)],Value.int .i64 y,undef,undef,undef,undef],defers:=[] }) ?iassign ?ibody ?idone ?istop
  case idlt =>
   rcases hb with hb | rfl | rfl
   ·exact HT6.out.lt hb
   ·have:=HZ6.out;omega
   ·have:=HZ6.out;omega
  case iclt=>have:=HB3.out b hb;have:=HZ6.out;omega
  case icnd =>
   have hlt':=HB3.out b hb
   rintro (h | rfl | rfl)
   ·exact HM3.out b hb h
   ·omega
   ·omega
  case isI =>
   rintro j Fq A B ⟨r1,r2⟩ hAB;exact ⟨HJ.out _ Fq A B r1 (hAB.mono fun b hb=>⟨by have:=HG6.out.1.size;have:=HB1.out.size;omega,hb.2⟩),zA1 r2 HG6.out.1.size hAB⟩
  case isX =>
   rintro c Fq A B ⟨r0,r1,r2⟩ hAB;exact ⟨r0,HJX.out Fq A B r1 (hAB.mono fun b hb=>⟨by have:=HG6.out.1.size;have:=HB1.out.size;omega,hb.2⟩),zA1 r2 HG6.out.1.size hAB⟩
  case iassign =>
   intro l2 z V K hK
   dsimp only [encI]
   gi_wp2
   exact hK
  case ibody =>
   rintro l2 j z Fq V hx ⟨r1,r2⟩ hV hFq;have hYv:=(r2.1.block W.heap.size HYN.out.1 (HYN.out.2 Fp0 fun b hb=>.inl hb)).trans HYC1.out
   have fy:=zAA hYv 0 _ rfl
   obtain ⟨fn2,tmps2,assign2,body2,hy2,hR2⟩:=HY.out (1+j) z Fq V (by rw [Nat.add_comm];exact hx) r1 (by have:=r2.1.size;have:=HB1.out.size;omega) hFq
   have HR2:=Lib.hid hR2
   have HQ2:=Lib.hid r2
   dsimp only [encI] at hy2
   clear hx r1 r2 hV hFq hYv hR2
   gi_wp2
   refine ⟨fun h=>(by cases h),?_⟩
   refine (RoundIn.inR l2 HR2.out).mono ?_
   rintro e V5 (⟨rfl,hL⟩ | ⟨rfl,hL⟩)
   ·have HL:=Lib.hid hL
    clear hL
    gi_wp2
    obtain ⟨Fr,s1,s2,s3⟩:=HL.out
    exact ⟨Fr,s1,s2,s3,HQ2.out.trans s1⟩
   ·have HL:=Lib.hid hL
    clear hL
    gi_wp2
    obtain ⟨Fr,s1,s2,s3⟩:=HL.out
    exact ⟨Fr,s1,s2,rfl,s3,HQ2.out.trans s1⟩
  case idone =>
   rintro W5 ⟨Fq,r1,r2,⟨q1,q2⟩,qn⟩ hK5;have HF:Hid (J (x :: belowW f x).length Fq W5):=by
    show J _ _ _
    rw [List.length_cons,Nat.add_comm];exact q1
   have HG5:Hid (Grows Fp0 Fq W W5):=(Grows.of_below HB1.out).trans q2
   have HR2:=Lib.hid r2
   have HQN:=Lib.hid qn
   have HK5:=Lib.hid hK5
   have HS6:Hid (W.heap.size≤w6.heap.size):=by have:=HG6.out.1.size;have:=HB1.out.size;show _≤_;omega
   clear r1 r2 q1 q2 qn hK5
   gi_wp2
   refine zAO [w6.heap.size] W5 (by simp) (fun b hb=>by rw [List.mem_singleton.1 hb];exact HK5.out) (fun w' hw'=>⟨_,results_none rfl _ _ _,⟨_,rfl⟩,.inl ?_⟩)
   exact zAo HG5.out HR2.out (fun b hb=>by rw [List.mem_singleton.1 hb];exact ⟨HS6.out,HS6.out⟩) (fun b hb=>by rw [List.mem_singleton.1 hb];exact HQN.out) hw' (HJ.out _ Fq) HF.out
  case istop =>
   rintro c W5 ⟨Fq,r1,r2,⟨rfl,q1,q2⟩,qn⟩ hK5;have HF:=Lib.hid q1
   have HG5:Hid (Grows Fp0 Fq W W5):=(Grows.of_below HB1.out).trans q2
   have HR2:=Lib.hid r2
   have HQN:=Lib.hid qn
   have HK5:=Lib.hid hK5
   have HS6:Hid (W.heap.size≤w6.heap.size):=by have:=HG6.out.1.size;have:=HB1.out.size;show _≤_;omega
   clear r1 r2 q1 q2 qn hK5
   gi_wp2
   refine zAO [w6.heap.size] W5 (by simp) (fun b hb=>by rw [List.mem_singleton.1 hb];exact HK5.out) (fun w' hw'=>⟨_,results_none rfl _ _ _,⟨_,rfl⟩,.inr ?_⟩)
   exact zAo HG5.out HR2.out (fun b hb=>by rw [List.mem_singleton.1 hb];exact ⟨HS6.out,HS6.out⟩) (fun b hb=>by rw [List.mem_singleton.1 hb];exact HQN.out) hw' (HJX.out Fq) HF.out
 ·have HG3:=Lib.hid ((Grows.of_below HB1.out).trans hG3)
  have HB3:=Lib.hid hB3
  have HX3:=Lib.hid hx3
  clear hG3 hB3 hx3 hy' f2 f3
  gi_wp2
  refine zAO [] W3 (by simp) (by simp) (fun w' hw'=>⟨_,results_none rfl _ _ _,⟨_,rfl⟩,.inr ?_⟩)
  exact zAo HG3.out HB3.out (by simp) (by simp) hw' (HJX.out Fp3) HX3.out
end
end
section
open Go.RowKit Go.Shelf
attribute [local go_sem] Oper.semAt_some zJl zD9 zJm zB8 zJI zDt zJJ zB3 zB4 zB5 zB6
theorem zD8 {E Fp0 Fp:Nat→Prop} {W wr w':World} {p:(Nat→Prop)→World→Prop} {N:Nat} (hg:GrowsE E Fp0 Fp W wr) (hb:∀ b,Fp b→b<wr.heap.size) (ht:Turn (fun b=>b∈([]:List Nat)) wr w') (hp:StabE E N Fp (p Fp)) (h:p Fp wr):LeftE E Fp0 W p w':=by
 have ht':∀ {Q:Nat→Prop},Turn Q wr w':=ht.mono fun b hb=>by simp at hb
 exact ⟨Fp,⟨⟨ht.os.trans hg.1.os,ht.tape.trans hg.1.tape,ht.output.trans hg.1.output,Nat.le_trans hg.1.size ht.size,fun b hb1 hf=>(ht.block b (Nat.lt_of_lt_of_le hb1 hg.1.size) (by simp)).trans (hg.1.block b hb1 hf)⟩,hg.2⟩,fun b h1=>Nat.lt_of_lt_of_le (hb b h1) ht.size,hp wr w' h ht'⟩
section
variable {M:Nat→Prop} {t:Nat} {f:Fo} {next:Int} {w w':World}
def ancAt (f:Fo) (bi:Nat) (w:World):Nat:=match w.cell? ⟨bi,0,none⟩ with
 | some (.int .i64 c)=>(ancW f c).length
 | _=>0
theorem zHd {bi:Nat} {c:Int} (h:w.heap[bi]? = some (.cells #[.int .i64 c] 3 (0,0))):ancAt f bi w=(ancW f c).length:=by
 unfold ancAt;rw [zAA h 0 _ rfl]
 rfl
def aboW (f:Fo) (x:Int) (all:Bool):List Int:=if all then ancW f x else (ancW f x).take 1
def caps3 (t:Nat) (x:Int) (all:Bool) (w:World):World:=(caps t x w).alloc (.cells #[.bool all] 4)
theorem zBt (t:Nat) (x:Int) (all:Bool) (w:World):Below w.heap.size w (caps3 t x all w):=(zAq t x w).alloc (by rw [zAu];omega) _
theorem zEm (t:Nat) (x:Int) (all:Bool) (w:World):(caps3 t x all w).heap.size=w.heap.size+3:=by simp [caps3,zAu]
theorem zJN (t:Nat) (x:Int) (all:Bool) (w:World):(caps3 t x all w).heap[w.heap.size]? = some (.cells #[treeI t] 82 (0,0)):=(Below.heap_alloc _ _ _ (by rw [zAu];omega)).trans (zCq t x w)
theorem zJM (t:Nat) (x:Int) (all:Bool) (w:World):(caps3 t x all w).heap[w.heap.size+1]? = some (.cells #[.int .i64 x] 3 (0,0)):=(Below.heap_alloc _ _ _ (by rw [zAu];omega)).trans (zCp t x w)
theorem zJL (t:Nat) (x:Int) (all:Bool) (w:World):(caps3 t x all w).heap[w.heap.size+2]? = some (.cells #[.bool all] 4 (0,0)):=by
 have:=heap_alloc_new (caps t x w) (.cells #[.bool all] 4)
 rwa [zAu] at this
theorem zDp (w:World) (t:Nat) (x:Int) (all:Bool):Calls Tryz.prog 84 #[.agg #[treeI t],.int .i64 x,.bool all] w fun e w' =>
  e=.returned (.func (.func 114) #[] #[.pointer (some ⟨w.heap.size+1,0,none⟩),.pointer (some ⟨w.heap.size,0,none⟩),.pointer (some ⟨w.heap.size+2,0,none⟩)])∧w'=caps3 t x all w:=by
 unfold treeI
 go_enter Tryz.func84,Tryz.ntmps84
 go_wp2_with fail
 go_ret;exact ⟨rfl,rfl⟩
theorem zEi (hwf:InvF f next) {x:Int} (hx:x∈0 :: f.ids) (all:Bool) (w:World) (bw bi ba:Nat) (ht:TreeM M t f next w) (h1:w.heap[bw]? = some (.cells #[treeI t] 82 (0,0))) (h2:w.heap[bi]? = some (.cells #[.int .i64 x] 3 (0,0)))
  (h3:w.heap[ba]? = some (.cells #[.bool all] 4 (0,0))) (hni:¬ M bi) (hwi:bw≠bi) (hai:ba≠bi) :
  IterE Tryz.prog 114 #[.pointer (some ⟨bi,0,none⟩),.pointer (some ⟨bw,0,none⟩),.pointer (some ⟨ba,0,none⟩)] encI (aboW f x all) (fun b=>M b∨b=bw∨b=bi∨b=ba) (fun b=>b=bi) w:=by
 intro n0 l J Jx W Fp0 hD hsz hC hJ hJx hY h0;have HC:=Lib.hid hC
 have HY:=Lib.hid hY
 have HJ:=Lib.hid hJ
 have HJX:=Lib.hid hJx
 have HWF:=Lib.hid hwf
 have HT:Hid (TreeM M t f next W):=ht.keep (fun b hb=>(hD b (.inl hb)).2) hsz
 have HG1:=Lib.hid ((hD bw (.inr (.inl rfl))).2.trans h1)
 have HG2:=Lib.hid ((hD bi (.inr (.inr (.inl rfl)))).2.trans h2)
 have HG3:=Lib.hid ((hD ba (.inr (.inr (.inr rfl)))).2.trans h3)
 have HNI:Hid (¬ M bi∧bw≠bi∧ba≠bi):=⟨hni,hwi,hai⟩
 obtain ⟨m,hm⟩:∃ m,Hid ((ancW f x).length=m):=⟨_,rfl⟩
 have HX:=Lib.hid hx
 have HJ0:=Lib.hid h0
 clear hD hsz hC hY hJ hJx h0 ht h1 h2 h3 hx hwf hni hwi hai;refine callsIn_of_wp_marks Tryz.func114 rfl trivial ?_ rfl
 simp only [Tryz.ntmps114,List.size_toArray,List.length_cons,List.length_nil,Nat.reduceAdd,Nat.reduceSub,Array.replicate_succ,Array.replicate_zero,List.push_toArray,List.append_toArray,List.nil_append,List.cons_append]
 gi_wp2
 refine wpIn_loop (fun a wr=>∃ (k:Nat) (c:Int) (Fp:Nat→Prop) (u4 u5 u6 u7 u8 u9 u10 u11 u12 u13 u14 u15 u16 u17 u18:Value),a={ tmps:=#[Value.func (Fn.yield l) #[] #[],Value.pointer (some ⟨bi,0,none⟩),Value.pointer (some ⟨bw,0,none⟩),Value.pointer (some ⟨ba,0,none⟩),u4,u5,u6,u7,u8,u9,u10,u11,u12,u13,u14,u15,u16,u17,u18],defers:=[] }∧k≤m∧(k=0∨all=true) ∧
   c∈0 :: f.ids∧Hid ((ancW f x).drop k=ancW f c)∧Hid (J k Fp wr)∧Hid (GrowsE (fun b=>b=bi) Fp0 Fp W wr)∧Hid (∀ b,Fp b→b<wr.heap.size)∧Hid (wr.heap[bi]? = some (.cells #[.int .i64 c] 3 (0,0)))) (fun _ wr=>ancAt f bi wr) ?start ?round
 case start=>exact ⟨0,x,Fp0,_,_,_,_,_,_,_,_,_,_,_,_,_,_,_,rfl,Nat.zero_le _,.inl rfl,HX.out,rfl,HJ0.out,.of (Grows.refl _ _),fun b hb=>(HC.out b hb).1,HG2.out⟩
 case round =>
  rintro a wr ⟨k,c,Fp,u4,u5,u6,u7,u8,u9,u10,u11,u12,u13,u14,u15,u16,u17,u18,rfl,hk,hka,hc,hdr,hJk,hGk,hBk,hci⟩;have HCM:=Lib.hid hc
  have f2:=zAA hci.out 0 _ rfl
  have nF:∀ b,b<W.heap.size→(M b∨b=bw∨b=ba) → ¬ (Fp0 b∨b=bi):=fun b hb hd hf=>by
   rcases hf with hf | rfl
   ·rcases hd with hd | hd | hd
    ·exact (HC.out b hf).2 (.inl hd)
    ·exact (HC.out b hf).2 (.inr (.inl hd))
    ·exact (HC.out b hf).2 (.inr (.inr (.inr hd)))
   ·rcases hd with hd | hd | hd
    ·exact HNI.out.1 hd
    ·exact HNI.out.2.1 hd.symm
    ·exact HNI.out.2.2 hd.symm
  have ht:TreeM M t f next wr:=HT.out.keep (fun b hb=>hGk.out.1.block b (HT.out.lt hb) (nF b (HT.out.lt hb) (.inl hb))) hGk.out.1.size
  have l1:=(Array.getElem?_eq_some_iff.1 HG1.out).1
  have l3:=(Array.getElem?_eq_some_iff.1 HG3.out).1
  have l2:=(Array.getElem?_eq_some_iff.1 HG2.out).1
  have k1:=(hGk.out.1.block bw l1 (nF bw l1 (.inr (.inl rfl)))).trans HG1.out
  have k3:=(hGk.out.1.block ba l3 (nF ba l3 (.inr (.inr rfl)))).trans HG3.out
  have HK3:=Lib.hid k3
  have HL2:Hid (bi<W.heap.size):=l2
  have f1:=zAA k1 0 _ rfl
  unfold treeI at f1;have HTr:=Lib.hid ht
  clear nF ht l1 l2 l3 k1 k3;by_cases hc0:c=0
  ·subst hc0
   gi_wp2
   have hlen:(aboW f x all).length=k:=by
    have hd:=hdr.out
    rw [zDd,List.drop_eq_nil_iff] at hd;have hkm:(ancW f x).length=k:=by have:=hm.out;omega
    unfold aboW;rcases hka with rfl | rfl
    ·rw [List.length_eq_zero_iff.1 hkm];simp
    ·simpa using hkm
   refine zAO [] wr (by simp) (by simp) (fun w' hw'=>⟨_,results_none rfl _ _ _,⟨_,rfl⟩,.inl ?_⟩)
   rw [hlen];exact zD8 hGk.out hBk.out hw' (HJ.out _ Fp) hJk.out
  ·have hcn:(c != 0)=true:=by simpa using hc0
   have hcm:c∈f.ids:=by
    rcases List.mem_cons.1 hc with h | h
    ·exact absurd h hc0
    ·exact h
   obtain ⟨hst,hpm⟩:=zBD HWF.out hcm
   obtain ⟨p,hp⟩:∃ p,Hid ((entW f c).par=p):=⟨_,rfl⟩
   rw [hp.out] at hst hpm;have HST:=Lib.hid hst
   have HPM:=Lib.hid hpm
   clear hst hpm hc hcm
   gi_wp2
   refine ⟨trivial,fun h=>(by cases h),?_⟩
   refine (callsIn_wide.2 (zCL HTr.out HCM.out)).mono ?_
   rintro e w2 ⟨A,cc,rfl,_,hb2⟩;have hci2:=(hb2.block bi (Array.getElem?_eq_some_iff.1 hci.out).1).trans hci.out
   have fr2:=zAV hci2 0
   have f2':=zAA hci2 0 _ rfl
   obtain ⟨W3,hW3⟩:∃ W3,Hid (W3=w2.setCell ⟨bi,0,none⟩ (.int .i64 p)):=⟨_,rfl⟩
   have hci3:W3.heap[bi]? = some (.cells #[.int .i64 p] 3 (0,0)):=by rw [hW3.out];exact Lib.heap_setCell_same (i:=0) hci2 _
   have ht23:Turn (fun b=>b=bi) w2 W3:=by
    rw [hW3.out];exact ⟨rfl,rfl,rfl,by simp,fun b _ hb=>Below.heap_setCell _ _ _ _ hb⟩
   have htr3:∀ {Q:Nat→Prop},Q bi→Turn Q wr W3:=fun hq=>(Turn.of_below hb2).trans (ht23.mono fun b hb=>by rw [hb];exact hq)
   have HJ3:Hid (J k Fp W3):=HJ.out k Fp wr W3 hJk.out (htr3 (.inr rfl))
   have HG3':Hid (GrowsE (fun b=>b=bi) Fp0 Fp W W3):=by
    refine ⟨hGk.out.1.trans (htr3 (.inr rfl)),hGk.out.2⟩
   have HB3:Hid (∀ b,Fp b→b<W3.heap.size):=fun b hb=>by have:=hBk.out b hb;have:=hb2.size;have:=ht23.size;omega
   have hNF:¬ Fp bi:=fun hf=>by
    rcases hGk.out.2 bi hf with h | h
    ·exact (HC.out bi h).2 (.inr (.inr (.inl rfl)))
    ·have:=HL2.out;omega
   have HNF:=Lib.hid hNF
   have k3:W3.heap[ba]? = some (.cells #[.bool all] 4 (0,0)):=(ht23.block ba (by have:=(Array.getElem?_eq_some_iff.1 HK3.out).1;have:=hb2.size;omega) HNI.out.2.2).trans ((hb2.block ba (Array.getElem?_eq_some_iff.1 HK3.out).1).trans HK3.out)
   have HK3':=Lib.hid k3
   have HCI3:=Lib.hid hci3
   have hkm1:k<m:=by
    have hd:=hdr.out
    rw [HST.out] at hd;have:=congrArg List.length hd
    rw [List.length_drop,hm.out] at this;simp at this
    omega
   have hget:(aboW f x all)[k]? = some p:=by
    have hg:(ancW f x)[k]? = some p:=by
     have hd:=hdr.out
     rw [HST.out] at hd;have:=congrArg (·[0]?) hd
     simpa using this
    unfold aboW;rcases hka with rfl | rfl
    ·cases all
     ·simp only [Bool.false_eq_true,if_false]
      rw [List.getElem?_take_of_lt (by decide)];exact hg
     ·simpa using hg
    ·simpa using hg
   obtain ⟨fn',tmps',assign',body',hy',hR'⟩:=HY.out k p Fp W3 hget HJ3.out (by have:=HG3'.out.1.size;exact this) HB3.out
   have HR':=Lib.hid hR'
   have f4:=zAA hci3 0 _ rfl
   dsimp only [encI] at hy'
   rw [hW3.out] at f4 hy';clear hci3 ht23 htr3 hNF k3 hb2 hci2 hget hR' f1 f2;unfold nodeV nodeR strV;rw [hp.out]
   gi_wp2
   refine ⟨fun h=>(by cases h),?_⟩
   rw [← hW3.out];refine (RoundIn.anyD HR'.out).mono ?_
   rintro e W5 (⟨rfl,Fp5,hG5,hB5,hJ5⟩ | ⟨rfl,Fp5,hG5,hB5,hx5⟩)
   ·have hci5:=(hG5.1.block bi (Array.getElem?_eq_some_iff.1 HCI3.out).1 HNF.out).trans HCI3.out
    have hal5:=(hG5.1.block ba (Array.getElem?_eq_some_iff.1 HK3'.out).1 (fun hf=>by
     rcases hGk.out.2 ba hf with h | h
     ·exact (HC.out ba h).2 (.inr (.inr (.inr rfl)))
     ·have:=(Array.getElem?_eq_some_iff.1 HG3.out).1;omega)).trans HK3'.out
    have fa:=zAA hal5 0 _ rfl
    have HG5:=Lib.hid (HG3'.out.grow hG5)
    have HB5:=Lib.hid hB5
    have HJ5:=Lib.hid hJ5
    have HCI5:=Lib.hid hci5
    clear hci5 hal5 hG5 hB5 hJ5 hy' f4 fr2 f2';cases all with
    | true =>
     gi_wp2
     refine ⟨⟨k+1,p,Fp5,_,_,_,_,_,_,_,_,_,_,_,_,_,_,_,rfl,by omega,.inr (by first | trivial | rfl),HPM.out,?_,HJ5.out,HG5.out,HB5.out,HCI5.out⟩,?_⟩
     ·show _=_
      rw [← List.drop_drop,hdr.out,HST.out]
      rfl
     ·rw [zHd HCI5.out,zHd hci.out]
      simp only [HST.out,List.length_cons];omega
    | false =>
     gi_wp2
     have hk0:k=0:=by rcases hka with h | h;exact h;cases h
     have hlen:(aboW f x false).length=k+1:=by
      unfold aboW;rw [hk0];simp only [Bool.false_eq_true,if_false,List.length_take,hm.out];omega
     refine zAO [] W5 (by simp) (by simp) (fun w' hw'=>⟨_,results_none rfl _ _ _,⟨_,rfl⟩,.inl ?_⟩)
     rw [hlen];exact zD8 HG5.out HB5.out hw' (HJ.out _ Fp5) HJ5.out
   ·have HG5:=Lib.hid (HG3'.out.grow hG5)
    have HB5:=Lib.hid hB5
    have HX5:=Lib.hid hx5
    clear hG5 hB5 hx5 hy' f4 fr2 f2'
    gi_wp2
    refine zAO [] W5 (by simp) (by simp) (fun w' hw'=>⟨_,results_none rfl _ _ _,⟨_,rfl⟩,.inr ?_⟩)
    exact zD8 HG5.out HB5.out hw' (HJX.out Fp5) HX5.out
theorem zGR (w:World) (A:Option Addr) (n c:Nat):Calls Tryz.prog 85 #[.slice A n c] w fun e w'=>e=.returned (.func (.func 115) #[] #[.pointer (some ⟨w.heap.size,0,none⟩)])∧w'=w.alloc (.cells #[.slice A n c] 32):=by
 go_enter Tryz.func85,Tryz.ntmps85
 go_wp2_with fail
 go_ret;exact ⟨rfl,rfl⟩
def rowB (A:Option Addr) (l:List Int) (b:Nat):Prop:=0<l.length ∧ ∃ ad,A=some ad∧b=ad.block
theorem zHD (L:List Int) (A:Option Addr) (c:Nat) (w:World) (bl:Nat) (h1:w.heap[bl]? = some (.cells #[.slice A L.length c] 32 (0,0))) (h2:IntsAt w w.heap.size A L) (hl:L.length≤1000000000) :
  IterG Tryz.prog 115 #[.pointer (some ⟨bl,0,none⟩)] encI L (fun b=>b=bl∨rowB A L b) w:=by
 intro n0 l J Jx W Fp0 hD hsz hC hJ hJx hY h0;have HC:=Lib.hid hC
 have HY:=Lib.hid hY
 have HJ:=Lib.hid hJ
 have HJX:=Lib.hid hJx
 have g1:=(hD bl (.inl rfl)).2.trans h1
 have HG1:=Lib.hid g1
 have HA:Hid (0<L.length → ∃ ad,A=some ad∧ad.block<W.heap.size ∧ ∀ (k:Nat) (x:Int),L[k]? = some x→W.cell? (ad.add k)=some (.int .i64 x)):=fun hp=>by
  obtain ⟨ad,e,hb,hc⟩:=h2 hp
  refine ⟨ad,e,by omega,fun k x hk=>?_⟩
  rw [← hc k x hk];exact World.cell?_of_block (by rw [zAD];exact (hD ad.block (.inr ⟨hp,ad,e,rfl⟩)).2)
 have HJ0:=Lib.hid h0
 obtain ⟨m,hm⟩:∃ m,Hid (L.length=m):=⟨_,rfl⟩
 rw [hm.out] at hl;have f1:=zAA g1 0 _ rfl
 rw [hm.out] at f1;have hm0:(m:Int)≤1000000000:=by omega
 clear hD hsz hC hY hJ hJx h0 h1 h2 g1;refine callsIn_of_wp_marks Tryz.func115 rfl trivial ?_ rfl
 simp only [Tryz.ntmps115,List.size_toArray,List.length_cons,List.length_nil,Nat.reduceAdd,Nat.reduceSub,Array.replicate_succ,Array.replicate_zero,List.push_toArray,List.append_toArray,List.nil_append,List.cons_append]
 gi_wp2
 refine wpIn_loop (fun a wr=>∃ (j:Nat) (Fp:Nat→Prop) (u2 u3 u4 u8 u9 u10 u11 u12 u13 u14 u15:Value),a={ tmps:=#[Value.func (Fn.yield l) #[] #[],Value.pointer (some ⟨bl,0,none⟩),u2,u3,u4,Value.slice A m c,Value.int .i64 m,Value.int .i64 (j:Int),u8,u9,u10,u11,u12,u13,u14,u15],defers:=[] }∧j≤m ∧
   Hid (J j Fp wr)∧Hid (Grows Fp0 Fp W wr)∧Hid (∀ b,Fp b→b<wr.heap.size)) (fun a _=>m-(intOf (a.tmps.getD 7 undef)).toNat) ?start ?round
 case start=>exact ⟨0,Fp0,_,_,_,_,_,_,_,_,_,_,_,rfl,Nat.zero_le _,HJ0.out,Grows.refl _ _,fun b hb=>(HC.out b hb).1⟩
 case round =>
  rintro a wr ⟨j,Fp,u2,u3,u4,u8,u9,u10,u11,u12,u13,u14,u15,rfl,hj,hJj,hGj,hBj⟩;have j0:(0:Int)≤(j:Int):=by omega
  by_cases hlt:j<m
  ·have jm:(j:Int)<(m:Int):=by omega
   obtain ⟨x,hx⟩:∃ x,Hid (L[j]? = some x):=⟨L[j]'(by have:=hm.out;omega),List.getElem?_eq_getElem _⟩
   obtain ⟨ad,rfl,hab,hcl⟩:=HA.out (by have:=hm.out;omega)
   have cx:=(World.cell?_of_block (w:=W) (w':=wr) (a:=ad.add j) (by rw [zAD];exact hGj.out.1.block _ hab fun hf=>(HC.out _ hf).2 (.inr ⟨by have:=hm.out;omega,ad,rfl,rfl⟩))).trans (hcl j x hx.out)
   obtain ⟨fn,tmps,assign,body,hyy,hR⟩:=HY.out j x Fp wr hx.out hJj.out hGj.out.1.size hBj.out
   have HRR:=Lib.hid hR
   dsimp only [encI] at hyy
   clear hR hcl f1
   gi_wp2
   refine ⟨fun h=>(by cases h),?_⟩
   refine (RoundIn.anyD HRR.out).mono ?_
   rintro e w4 (⟨rfl,Fp4,hG4,hB4,hJ4⟩ | ⟨rfl,Fp4,hG4,hB4,hx4⟩)
   ·have HG4:=Lib.hid (hGj.out.trans hG4)
    have HB4:=Lib.hid hB4
    have HJ4:=Lib.hid hJ4
    clear hG4 hB4 hJ4 hyy
    gi_wp2
    exact ⟨⟨j+1,Fp4,_,_,_,_,_,_,_,_,_,_,_,rfl,by omega,HJ4.out,HG4.out,HB4.out⟩,by simp [intOf];omega⟩
   ·have HG4:=Lib.hid (hGj.out.trans hG4)
    have HB4:=Lib.hid hB4
    have HX4:=Lib.hid hx4
    clear hG4 hB4 hx4 hyy
    gi_wp2
    refine zAO [] w4 (by simp) (by simp) (fun w' hw'=>⟨_,results_none rfl _ _ _,⟨_,rfl⟩,.inr ?_⟩)
    exact zAo HG4.out HB4.out (by simp) (by simp) hw' (HJX.out Fp4) HX4.out
  ·have jm:¬ (j:Int)<(m:Int):=by omega
   have hjm:j=m:=by omega
   gi_wp2
   refine zAO [] wr (by simp) (by simp) (fun w' hw'=>⟨_,results_none rfl _ _ _,⟨_,rfl⟩,.inl ?_⟩)
   have hJm:J L.length Fp wr:=by rw [hm.out,← hjm];exact hJj.out
   exact zAo hGj.out hBj.out (by simp) (by simp) hw' (HJ.out _ Fp) hJm
end
end
section
open Go.RowKit Go.Shelf
attribute [local go_sem] Oper.semAt_some zJl zD9 zJm zB8 zJI zDt zJJ zB3 zB4 zB5 zB6
theorem zBg {P:Program} {ops:Array Oper} {Q:Exit→Act→World→Prop} {id:Nat} {a:Act} {w:World} (S:World→Prop) (hm:P.follows .mixedOrders=true) (hS:S w.drew)
  (h:S w.drew→wpAnyH P .any ops (onlyN Q) S ops.size (Array.replicate ops.size false) a w.drew):(Code.region id ops true).wp P Q a w :=
 wp_mono (wp_region_held_drew (S:=S) hm hS h) fun e a w h=>by
  cases e <;> first | exact h | exact h.elim
theorem Fo.par_kid:∀ (F:Fo) (q x:Int),F.ids.Nodup→x∈F.ids → ∃ e,F.ent q x=some e∧((e.par=q∧x∈F.roots) ∨ ∃ e',F.ent q e.par=some e'∧x∈e'.kids)
 | .nil,_,_,_,h=>by simp [Fo.ids] at h
 | .cons id d ks r,q,x,hn,h=>by
  simp only [Fo.ids,List.nodup_cons,List.nodup_append,List.mem_append,not_or] at hn;obtain ⟨⟨hk,hr⟩,nk,nr,hd⟩:=hn
  by_cases hx:x=id
  ·subst hx
   exact ⟨_,by rw [Fo.ent,if_pos rfl],.inl ⟨rfl,by simp [Fo.roots]⟩⟩
  by_cases hxk:x∈ks.ids
  ·obtain ⟨e,he,hp⟩:=Fo.par_kid ks id x nk hxk
   refine ⟨e,by rw [Fo.ent,if_neg hx,he],.inr ?_⟩
   rcases hp with ⟨h1,h2⟩ | ⟨e',h1,h2⟩
   ·exact ⟨_,by rw [h1,Fo.ent,if_pos rfl],h2⟩
   ·have hm:=Fo.ent_mem ks id e.par e' h1
    exact ⟨e',by rw [Fo.ent,if_neg (fun e2=>hk (by rw [← e2];exact hm)),h1],h2⟩
  ·have hxr:x∈r.ids:=by simp [Fo.ids,hx,hxk] at h;exact h
   obtain ⟨e,he,hp⟩:=Fo.par_kid r q x nr hxr
   refine ⟨e,by rw [Fo.ent,if_neg hx,Fo.ent_not ks id x hxk];exact he,?_⟩
   rcases hp with ⟨h1,h2⟩ | ⟨e',h1,h2⟩
   ·exact .inl ⟨h1,by simp [Fo.roots,h2]⟩
   ·have hm:=Fo.ent_mem r q e.par e' h1
    exact .inr ⟨e',by rw [Fo.ent,if_neg (fun e2=>hr (by rw [← e2];exact hm)),Fo.ent_not ks id _ (fun h'=>hd _ h' _ hm rfl)];exact h1,h2⟩
theorem zDz:∀ (l:List Int) (x:Int),x∈l→l[l.idxOf x]? = some x ∧ ∀ j,j<l.idxOf x→l[j]? ≠ some x
 | [],_,h=>by simp at h
 | a :: l,x,h=>by
  rw [List.idxOf_cons];by_cases e:a=x
  ·subst e
   simp
  ·have hx:x∈l:=by
    rcases List.mem_cons.1 h with h | h
    ·exact absurd h.symm e
    ·exact h
   obtain ⟨h1,h2⟩:=zDz l x hx
   rw [beq_false_of_ne e];refine ⟨by simpa using h1,fun j hj=>?_⟩
   cases j with
   | zero=>simpa using e
   | succ j=>simpa using h2 j (by simpa using hj)
section
variable {M:Nat→Prop} {t:Nat} {f:Fo} {next:Int} {w w':World}
theorem zJH (h:InvF f next) {x:Int} (hx:x∈f.ids):x∈kidsW f (entW f x).par:=by
 have hx':x∈(Dw f).ids:=by rw [zBG];exact List.mem_cons_of_mem _ hx
 obtain ⟨e,he,hp⟩:=Fo.par_kid (Dw f) 0 x (zBX h) hx'
 rw [zBU he];rcases hp with ⟨_,h2⟩ | ⟨e',h1,h2⟩
 ·have:x=0:=by simpa [Dw,Fo.roots] using h2
  have:=(h.rng x hx).1
  omega
 ·unfold kidsW
  rw [zBU h1];exact h2
theorem zF9 (h:TreeM M t f next w) {x:Int} (hx:x∈f.ids) :
  Calls Tryz.prog 86 #[.agg #[treeI t],.int .i64 x] w fun e w'=>∃ A c,e=.returned (.tuple #[.slice A (besW f x).length c,.int .i64 ((besW f x).idxOf x:Int)])∧intRow w' (.slice A (besW f x).length c) (besW f x)∧Below w.heap.size w w' ∧
   ∀ b,(Value.slice A (besW f x).length c).ownBlock=some b→w.heap.size≤b:=by
 have hi:=h.inv
 obtain ⟨hx0,hx1⟩:=zGE hi hx
 have hxb:(x == 0)=false:=by simpa using hx0
 obtain ⟨p,hp⟩:∃ p,Hid ((entW f x).par=p):=⟨_,rfl⟩
 have hbes:besW f x=kidsW f p:=by unfold besW;rw [if_neg hx0,hp.out]
 have hpm:p∈0 :: f.ids:=by rw [← hp.out];exact (zBD hi hx).2
 have hxk:x∈kidsW f p:=by rw [← hp.out];exact zJH hi hx
 rw [hbes];have hkl:=zB7 hi hpm
 have hfc:=hi.cnt
 obtain ⟨xs,hxs⟩:∃ xs,Hid (kidsW f p=xs):=⟨_,rfl⟩
 rw [hxs.out] at hxk hkl ⊢;obtain ⟨N,hN⟩:∃ N,Hid (w.heap.size=N):=⟨_,rfl⟩
 obtain ⟨W1,hW1⟩:∃ W1,Hid (W1=(w.alloc (.cells #[.iface 24 (.pointer (some ⟨t,0,none⟩))] 82)).alloc (.cells #[.slice none 0 0] 32)):=⟨_,rfl⟩
 have hb1:Below w.heap.size w W1:=by rw [hW1.out];exact ((Below.refl _ w).alloc (Nat.le_refl _) _).alloc (by simp) _
 have hz1:W1.heap.size=w.heap.size+2:=by rw [hW1.out];simp
 have HX1:Hid (W1.heap[w.heap.size]? = some (.cells #[treeI t] 82 (0,0))):=by
  show _=_
  rw [hW1.out];exact (Below.heap_alloc _ _ _ (by simp)).trans (heap_alloc_new w _)
 have HY1:Hid (W1.heap[w.heap.size+1]? = some (.cells #[.slice none 0 0] 32 (0,0))):=by
  show _=_
  rw [hW1.out];have:=heap_alloc_new (w.alloc (.cells #[.iface 24 (.pointer (some ⟨t,0,none⟩))] 82)) (.cells #[.slice none 0 0] 32)
  simpa using this
 have HB1:=Lib.hid hb1
 have HT1:=Lib.hid (h.below hb1)
 have HX:=Lib.hid hx
 have HPM:=Lib.hid hpm
 have HIDX:=Lib.hid (zDz xs x hxk)
 have HTW:=Lib.hid h
 clear h hi hx hx0 hx1 hbes hpm hxk hb1;refine callsIn_wide.1 (callsIn_of_wp_marks (n:=0) Tryz.func86 rfl trivial ?_ rfl)
 simp only [Tryz.ntmps86,List.size_toArray,List.length_cons,List.length_nil,Nat.reduceAdd,Nat.reduceSub,Array.replicate_succ,Array.replicate_zero,List.push_toArray,List.append_toArray,List.nil_append,List.cons_append];unfold treeI
 gi_wp2
 rw [← hW1.out];refine wpIn_wide.2 ?_
 rw [hN.out] at HX1 HY1 HB1 hz1 ⊢;have HZ1:=Lib.hid hz1
 have HSW:Hid (∀ V:World,Below W1.heap.size W1 V→V.cell? ⟨N,0,none⟩=some (.iface 24 (.pointer (some ⟨t,0,none⟩)))):=fun V hb=>zAA ((hb.block N (Array.getElem?_eq_some_iff.1 HX1.out).1).trans HX1.out) 0 _ rfl
 have hbd:Below W1.heap.size W1 W1.drew:=⟨rfl,rfl,rfl,Nat.le_refl _,fun _ _=>rfl⟩
 have hS:=HSW.out W1.drew hbd
 refine zBg (S:=fun V=>V.cell? ⟨N,0,none⟩=some (.iface 24 (.pointer (some ⟨t,0,none⟩)))) (by kernel_rfl) hS (fun hHeld=>?_)
 clear hS hz1;refine tkv 0 (h:=tkv 1 (h:=tkv 2 (h:=?_)))
 obtain ⟨w2,hw2⟩:∃ w2,Hid (W1.drew=w2):=⟨_,rfl⟩
 rw [hw2.out] at hbd ⊢;have HB2:=Lib.hid hbd
 have HT2:=Lib.hid (HT1.out.below hbd)
 clear hbd;refine rdy 3 (fun K hK=>?_)
 go_simp
 refine (zCL HT2.out (List.mem_cons_of_mem 0 HX.out)).mono ?_
 rintro e3 w3 ⟨A3,c3,rfl,_,hb3⟩;have HB3:Hid (Below W1.heap.size W1 w3):=HB2.out.trans (hb3.mono HB2.out.size)
 have HT3:=Lib.hid (HT2.out.below hb3)
 clear hb3;unfold nodeV nodeR strV;rw [hp.out];refine hK.out _ _ (HSW.out w3 HB3.out) (fun hHeld=>?_)
 clear hK K
 try go_frame
 refine tkv 4 (h:=?_)
 refine rdy 5 (fun K hK=>?_)
 go_simp
 refine (zCJ w3 t p).mono ?_
 rintro e4 w4' ⟨rfl,rfl⟩;obtain ⟨w4,hw4⟩:∃ w4,Hid (caps t p w3=w4):=⟨_,rfl⟩
 rw [hw4.out];obtain ⟨Z,hZ⟩:∃ Z,Hid (w3.heap.size=Z):=⟨_,rfl⟩
 have hb4:Below w3.heap.size w3 w4:=by rw [← hw4.out];exact zAq t p w3
 have hz4:w4.heap.size=Z+2:=by rw [← hw4.out,← hZ.out];exact zAu t p w3
 have q1:w4.heap[Z]? = some (.cells #[treeI t] 82 (0,0)):=by rw [← hw4.out,← hZ.out];exact zCq t p w3
 have q2:w4.heap[Z+1]? = some (.cells #[.int .i64 p] 3 (0,0)):=by rw [← hw4.out,← hZ.out];exact zCp t p w3
 have hT4:=HT3.out.below hb4
 have hit:=zCv HPM.out w4 Z (Z+1) hT4 q1 q2
 rw [hxs.out] at hit;have HI:=Lib.hid hit
 have HT4:=Lib.hid hT4
 have HB4':Hid (Below W1.heap.size W1 w4):=HB3.out.trans (hb4.mono HB3.out.size)
 have HB4:Hid (Below N w w4):=by
  have h1:=HB1.out
  have h2:=HB4'.out
  show Below N w w4
  rw [← hN.out] at h1 ⊢;exact h1.trans (h2.mono h1.size)
 have HX4:Hid (w4.heap[N+1]? = some (.cells #[.slice none 0 0] 32 (0,0))):=(HB4'.out.block (N+1) (by have:=HZ1.out;omega)).trans HY1.out
 have HZ4:=Lib.hid hz4
 have HZL:Hid (N+2≤Z):=by have:=HB3.out.size;have:=HZ1.out;have:=hZ.out;show _≤_;omega
 clear hb4 hz4 q1 q2 hT4 hit;refine hK.out _ _ (HSW.out w4 HB4'.out) (fun hHeld=>?_)
 clear hK K
 try go_frame
 refine wpAnyH_done (by kernel_rfl) ?_ _
 clear hHeld;rw [hZ.out];unfold closV
 dsimp only [onlyN]
 gi_wp2
 refine zCE (gf:=110) (lb:=#[.pointer (some ⟨Z,0,none⟩),.pointer (some ⟨Z+1,0,none⟩)]) rfl (enters_of Tryz.func110 (by kernel_rfl) rfl)
  HI.out (fun b hb=>⟨?dlt,rfl⟩) (Nat.le_refl _) (fun _=>rfl) (fun b=>b=N+1) (fun b hb=>⟨?clt,?cnd⟩)
  (fun i Fq W'=>BoxRow N (N+1) 32 3 1 i ((xs.take i).map (Value.int .i64)) Fq W')
  (fun c Fq W'=>False)
  ?sI ?sX ?start
  (fun y=>{ tmps:=#[Value.agg #[Value.iface 24 (Value.pointer (some ⟨t,0,none⟩))],Value.int .i64 x,Value.pointer (some ⟨N,0,none⟩),undef,Value.slice none 0 0,Value.int .i64 0,Value.pointer (some ⟨N+1,0,none⟩),Value.int .i64 y,Value.int .i64 x,Value.bool false,Value.agg #[Value.iface 24 (Value.pointer (some ⟨t,0,none⟩))],Value.agg #[Value.iface 24 (Value.pointer (some ⟨t,0,none⟩))],Value.int .i64 x,Value.agg #[Value.int .i64 x,Value.int .i64 p,Value.int .i64 (entW f x).d.kind,Value.int .i64 ((entW f x).kids.length:Int),Value.string ⟨(entW f x).d.name.toArray⟩,Value.string ⟨(entW f x).d.text.toArray⟩,Value.slice A3 (entW f x).d.attrs.length c3],Value.int .i64 p,Value.func (.func 110) #[] #[Value.pointer (some ⟨Z,0,none⟩),Value.pointer (some ⟨Z+1,0,none⟩)],Value.int .i64 y,undef,undef,undef,undef,undef,undef,undef,undef],defers:=[] }) ?assign ?body ?done ?stop
 case dlt =>
  have h4:=HZ4.out
  rcases hb with hb | rfl | rfl
  ·exact HT4.out.lt hb
  ·omega
  ·omega
 case clt=>have h4:=HZ4.out;have:=HZL.out;omega
 case cnd =>
  have h4:=HZL.out
  have hn:=hN.out
  rintro (hm | h | h)
  ·have:=HTW.out.lt hm;omega
  ·omega
  ·omega
 case sI=>intro i Fq;exact BoxRow.stab Fq
 case sX=>intro c Fq A B h _;exact h
 case start=>exact ⟨_,HX4.out,⟨by simp,.inl ⟨rfl,rfl⟩⟩,rfl,fun b h=>by simp [Value.ownBlock] at h⟩
 case assign =>
  intro l' x W' K hK
  dsimp only [encI]
  gi_wp2
  exact hK
 case stop=>rintro c W5 ⟨Fq,_,_,hf,_⟩;exact hf.elim
 case body =>
  rintro l' i xi Fq W' hx ⟨v,hb,hrow,hf,hv⟩ hW' hF;have hil:i<xs.length:=(List.getElem?_eq_some_iff.1 hx).1
  have fb:=zAA hb 0 _ rfl
  obtain ⟨Wa,hWa⟩:∃ Wa,Hid (Wa=W'.alloc (.cells #[.int .i64 xi] 3)):=⟨_,rfl⟩
  have hba:Below W'.heap.size W' Wa:=by rw [hWa.out];exact (Below.refl _ W').alloc (Nat.le_refl _) _
  have hXa:Wa.heap[W'.heap.size]? = some (.cells #[.int .i64 xi] 3 (0,0)):=by rw [hWa.out];exact heap_alloc_new W' _
  have hrowa:Wa.ownsRow 0 3 1 v i ((xs.take i).map (Value.int .i64)):=zAC hrow fun b hb=>hba.block b (zAJ hrow hb)
  obtain ⟨v',w',hr,hrow',hg',hf'⟩:=zAy (P:=Tryz.prog) Wa 32 32 3 (.int .i64 0) 1 8 Tryz.underlying32 zBf rfl (by decide) (by decide) v i _ hrowa ⟨W'.heap.size,0,none⟩ 1 1 [.int .i64 xi] (by decide) rfl (by
   intro j u0 hj;rw [zAI];cases j with
   | zero=>simp at hj;subst hj;exact zAA hXa 0 _ rfl
   | succ j=>simp at hj) (by intro u hu;simp at hu;subst hu;rfl) (by omega) (by decide)
  rw [hWa.out] at hr;obtain ⟨pa,pn,pc,rfl⟩:∃ pa pn pc,v'=.slice pa pn pc:=by
   rcases hrow'.2 with ⟨h,_⟩ | ⟨_,_,_,h,_⟩
   ·exact ⟨_,_,_,h⟩
   ·exact ⟨_,_,_,h⟩
  have hvb:v.ownBlock≠some (N+1):=zAT hrow hb (fun cur h=>by injection h with _ h _;exact absurd h (by decide))
  have hfin:=zFO (e:=3) (size:=1) (n:=i+1) (xs:=(xs.take (i+1)).map (Value.int .i64)) hb hf hv hF (by have:=HB4.out.size;rw [hN.out] at this;omega) (by decide) hba hg' hf' hvb (by
   rw [List.take_add_one,hx];simpa using hrow')
  have hbw:w'.heap[N+1]? = some (.cells #[v] 32 (0,0)):=(hg'.block (N+1) (Nat.lt_of_lt_of_le (hF _ hf) hba.size) (fun h=>hvb h.symm)).trans ((hba.block (N+1) (hF _ hf)).trans hb)
  have fw:=zAA hbw 0 _ rfl
  have HBW:=Lib.hid hbw
  have fw2:=zAV hbw 0
  have HFIN:=Lib.hid hfin
  clear hb hrow hf hv hba hXa hrowa hrow' hg' hf' hvb hfin hF hW' hx
  gi_wp2_with (gi_at_builtin;refine zA8 _ rfl _ _ 32 rfl v (.slice (some ⟨W'.heap.size,0,none⟩) 1 1) (by simp [Act.eval]) (by simp [Act.eval]) hr ?_)
  rw [zCe HBW.out];exact HFIN.out
 case done =>
  rintro W5 ⟨Fq,r1,r2,⟨v,hb,hrow,hf,hv⟩,qn⟩ hK5;rw [List.take_length] at hrow;obtain ⟨A5,c5,hv5,_⟩:=zAR hrow
  rw [hv5] at hb hrow hv;have fb:=zAA hb 0 _ rfl
  have HR1:=Lib.hid r1
  have HROW:=Lib.hid hrow
  have HV:=Lib.hid hv
  have hne:Hid ((Value.slice A5 xs.length c5).ownBlock≠some w4.heap.size):=fun h=>qn (hv _ h).1
  have HSW5:Hid (∀ V:World,Below W5.heap.size W5 V→V.cell? ⟨N+1,0,none⟩=some (.slice A5 xs.length c5)):=fun V hb'=>zAA ((hb'.block _ (Array.getElem?_eq_some_iff.1 hb).1).trans hb) 0 _ rfl
  clear r1 r2 hb hrow hf hv qn hv5;have HK5:=Lib.hid hK5
  gi_wp2
  refine wpIn_wide.2 ?_
  have hbd:Below W5.heap.size W5 W5.drew:=⟨rfl,rfl,rfl,Nat.le_refl _,fun _ _=>rfl⟩
  have hS:=HSW5.out W5.drew hbd
  refine zBg (S:=fun V=>V.cell? ⟨N+1,0,none⟩=some (.slice A5 xs.length c5)) (by kernel_rfl) hS (fun hHeld=>?_)
  clear hS fb;have hx5:intRow W5.drew (.slice A5 xs.length c5) xs:=zAC HROW.out fun b hb=>rfl
  refine tkv 0 (h:=tkv 1 (h:=tkv 2 (h:=?_)))
  refine rdy 3 (fun K hK=>?_)
  go_simp
  refine (zIw _ xs W5.drew hx5 (by omega) (xs.idxOf x) x HIDX.out.1 HIDX.out.2).mono ?_
  rintro e6 w6 ⟨rfl,rfl⟩;refine hK.out _ _ (HSW5.out W5.drew hbd) (fun hHeld=>?_)
  clear hK K
  try go_frame
  refine tkv 4 (h:=tkv 5 (h:=?_))
  refine wpAnyH_done (by kernel_rfl) ?_ _
  clear hHeld
  dsimp only [onlyN]
  gi_wp2
  refine zAO [w4.heap.size] W5.drew (by simp) (fun b hb=>by simp at hb;subst hb;exact HK5.out) (fun w' hw'=>⟨_,results_tmp2 Tryz.results86 _ _ _,A5,c5,rfl,?_,?_,?_⟩)
  ·have h1:=hx5
   exact zAC (w':=w') h1 fun b hb=>hw'.block b (zAJ h1 hb) (fun hm=>by simp at hm;exact hne.out (by rw [hb,hm]))
  ·have h1:=HR1.out.1
   have h4:=HB4.out
   have hs:=h4.size
   have hn:=hN.out
   rw [hN.out] at hs ⊢;refine ⟨hw'.os.trans (h1.os.trans h4.os),hw'.tape.trans (h1.tape.trans h4.tape),hw'.output.trans (h1.output.trans h4.output),?_,fun b hb=>?_⟩
   ·have:=hw'.size;have:=h1.size;have e:W5.drew.heap.size=W5.heap.size:=rfl;omega
   ·exact (hw'.block b (Nat.lt_of_lt_of_le (show b<w4.heap.size by omega) h1.size) (fun hm=>by simp at hm;omega)).trans ((h1.block b (by omega) (fun h=>by omega)).trans (h4.block b hb))
  ·intro b h;have:=(HV.out b h).2;rw [hN.out];exact this
theorem zIH (t:Nat) (w:World):Calls Tryz.prog 86 #[.agg #[treeI t],.int .i64 0] w fun e w'=>e=.returned (.tuple #[.slice none 0 0,.int .i64 0])∧Below w.heap.size w w':=by
 unfold treeI;refine callsIn_wide.1 (callsIn_of_wp_marks (n:=0) Tryz.func86 rfl trivial ?_ rfl)
 simp only [Tryz.ntmps86,List.size_toArray,List.length_cons,List.length_nil,Nat.reduceAdd,Nat.reduceSub,Array.replicate_succ,Array.replicate_zero,List.push_toArray,List.append_toArray,List.nil_append,List.cons_append]
 gi_wp2
 refine zAO [] _ (by simp) (by simp) (fun w' hw'=>⟨_,results_tmp2 Tryz.results86 _ _ _,rfl,?_⟩)
 have hb:Below w.heap.size w ((w.alloc (.cells #[.iface 24 (.pointer (some ⟨t,0,none⟩))] 82)).alloc (.cells #[.slice none 0 0] 32)):=((Below.refl _ w).alloc (Nat.le_refl _) _).alloc (by simp) _
 exact ⟨hw'.os.trans hb.os,hw'.tape.trans hb.tape,hw'.output.trans hb.output,Nat.le_trans hb.size hw'.size,fun b hb'=>(hw'.block b (Nat.lt_of_lt_of_le hb' hb.size) (by simp)).trans (hb.block b hb')⟩
end
end
end Go.Proofs.YtcombcoilpmnkaaGreat
namespace Go.Proofs
open Go.Shelf Go.RowKit
def Tryz.laysR112_ren:Go.Shelf.Ren:=⟨fun | 112=>88 | n=>n,fun | 0=>0 | 3=>3 | 4=>4 | 28=>32 | n=>n,fun | n=>n⟩
theorem Tryz.laysR112:Go.Proofs.Lays.n112 Tryz.prog Tryz.laysR112_ren:={
 mixed:=by kernel_rfl
 f112:=Tryz.func88.trans (congrArg some (by kernel_rfl))
 t0:=Tryz.underlying0
 a0:=Tryz.isAgg0
 z0:=Tryz.sizeOf0
 v0:=Tryz.zeroValue0
 t3:=Tryz.underlying3
 a3:=Tryz.isAgg3
 z3:=Tryz.sizeOf3
 v3:=Tryz.zeroValue3
 t4:=Tryz.underlying4
 a4:=Tryz.isAgg4
 z4:=Tryz.sizeOf4
 v4:=Tryz.zeroValue4
 t28:=Tryz.underlying32
 a28:=Tryz.isAgg32
 z28:=Tryz.sizeOf32
 v28:=Tryz.zeroValue32 }
end Go.Proofs
namespace Go.Proofs.YtcombcoilpmnkaaGreat
set_option maxRecDepth 100000
set_option maxHeartbeats 16000000
section
open Go.RowKit Go.Shelf Go.Sort
theorem zG0 (l:List Int) (g c:Nat) (w:World) (hrow:intRow w (.slice (some ⟨g,0,none⟩) l.length c) l) (hl:l.length≤1000000) :
  Calls Tryz.prog 88 #[.slice (some ⟨g,0,none⟩) l.length c] w fun e w'=>e=.returned (.tuple #[])∧(∀ (k:Nat) (x:Int),l.reverse[k]? = some x→w'.cell? ⟨g,k,none⟩=some (.int .i64 x))∧Turn (fun b=>b=g) w w':=by
 have hH:Holds (Value.int .i64) w g 0 l.toArray:=fun j hj=>by
  have hj':j<l.length:=by simpa using hj
  have h1:=zAd hrow j (.int .i64 l[j]) (by rw [List.getElem?_map,List.getElem?_eq_getElem hj'];rfl)
  have h2:l.toArray[j]! = l[j]:=by simp [getElem!_pos,hj']
  rw [h2,Nat.zero_add];obtain ⟨_,⟨h0,_⟩ | ⟨g',cap,cur,h3,_,h4,_⟩⟩:=hrow
  ·cases h0
  ·injection h3 with h3 _ _
   injection h3 with h3
   injection h3 with h3 _ _
   subst h3;exact ⟨by simpa using h1,zAV h4 _⟩
 refine (Any.slices_Reverse_int Tryz.laysR112 g 0 c l w hH (by omega)).mono ?_
 rintro e w' ⟨rfl,n,rfl⟩;refine ⟨rfl,fun k x hk=>?_,?_⟩
 ·have hkl:=(List.getElem?_eq_some_iff.1 hk).1
  have h1:=cell?_putRow (Value.int .i64) (Sort.ahead w n) g 0 l.toArray l.reverse.toArray hH (by simp) k (by simpa using hkl)
  rw [Nat.zero_add] at h1;rw [h1];have h2:l.reverse.toArray[k]! = x:=by
   rw [getElem!_pos _ k (by simpa using hkl)]
   have:=(List.getElem?_eq_some_iff.1 hk).2
   simpa using this
  rw [h2]
 ·refine ⟨rfl,rfl,rfl,by rw [size_putRow];exact Nat.le_refl _,fun b hb hne=>?_⟩
  show (mapBlock (Sort.ahead w n) g _).heap[b]? = _
  simp only [mapBlock,Array.getElem?_modify];rw [if_neg (fun e=>hne e.symm)]
  rfl
end
section
open Go.RowKit Go.Shelf
section
variable {w:World} {t mb:Nat} {y:Lay} {g:Int→Option Ent} {root next:Int} {n:Nat}
end
theorem zH8 (l:List Int) (A:Option Addr) (c:Nat) (w:World) (hA:intRow w (.slice A l.length c) l) (hl:l.length≤1000000) :
  Calls Tryz.prog 87 #[.slice A l.length c] w fun e w'=>∃ A' c',e=.returned (.slice A' l.length c')∧intRow w' (.slice A' l.length c') l∧(∀ b,(Value.slice A' l.length c').ownBlock=some b→w.heap.size≤b)∧Below w.heap.size w w':=by
 have keql:=fun (w':World)=>Lib.run_eql_slice_nil (P:=Tryz.prog) w' 32 3 A l.length c 0 0 Tryz.underlying32
 obtain ⟨_,_,hv,_,_,hn,hs⟩:=zAR hA
 injection hv with e1 _ e3
 subst e1;subst e3;cases A with
 | none =>
  have h0:=(hn rfl).1
  have hnil:=List.eq_nil_of_length_eq_zero h0
  clear hA keql hs hn;subst hnil;have keql:=fun (w':World)=>Lib.run_eql_slice_nil (P:=Tryz.prog) w' 32 3 none 0 c 0 0 Tryz.underlying32
  go_enter Tryz.func87,Tryz.ntmps87
  go_wp2_with fail
  go_ret;exact ⟨none,0,rfl,⟨by simp,.inl ⟨rfl,rfl⟩⟩,fun b hb=>by simp [Value.ownBlock] at hb,Below.refl _ _⟩
 | some ad =>
  obtain ⟨gb,rfl,hgb⟩:=hs ad rfl
  have HA:=Lib.hid hA
  clear hA hn hs
  go_enter Tryz.func87,Tryz.ntmps87
  obtain ⟨i0,hi0,hz0,hz1,hz2⟩:=info_parts zBf
  have hown:(w.alloc (.cells #[] 3)).ownsRow w.heap.size 3 1 (.slice (some ⟨w.heap.size,0,none⟩) 0 0) 0 [] :=
   ⟨by simp,.inr ⟨w.heap.size,0,#[],rfl,Nat.le_refl _,heap_alloc_new w _,Nat.le_refl _,by decide,by simp,by simp⟩⟩
  go_wp2_with (at_builtin;go_loud (refine wpList_append_own _ rfl (.tmp 5) (.tmp 6) 32 rfl w.heap.size 3 i0 (.int .i64 0) 1 8 Tryz.underlying32 hi0 hz0 hz1 hz2 rfl (by decide) _ 0 [] rfl hown ⟨gb,0,none⟩ l.length c (l.map (Value.int .i64)) rfl (by simp) ?c1 (by simp [Value.oneCell']) ?c2 ?c3 (by simp) ?c4))
  case c1 =>
   intro j u hu;have hu':l[j]? = some u:=by simpa using hu
   have h5:=zAd HA.out j (.int .i64 u) (by rw [List.getElem?_map,hu'];rfl)
   simpa using h5
  case c2=>unfold maxLen;omega
  case c3=>omega
  case c4 =>
   intro v' w' hown' hg _;obtain ⟨A',c',rfl⟩:∃ A' c',v'=.slice A' l.length c':=by
    rcases hown'.2 with ⟨h1,h2⟩ | ⟨g,c,cur,hv,_⟩
    ·exact ⟨none,0,by rw [h2];exact h1⟩
    ·exact ⟨_,c,hv⟩
   have hown2:w'.ownsRow w.heap.size 3 1 (.slice A' l.length c') l.length (l.map (Value.int .i64)):=by simpa using hown'
   go_wp2_with fail
   go_ret;exact ⟨A',c',rfl,World.ownsRow.mono hown2 (Nat.zero_le _),fun b hb=>(hown2.lt b hb).1,((Below.refl _ w).alloc (Nat.le_refl _) _).grown hg (by simp) (fun k hk=>(hown.lt k hk).1)⟩
def cntG (gs:Int→Option Ent) (ids:List Int):Nat:=(ids.filter fun id=>(gs id).isSome).length
end
end Go.Proofs.YtcombcoilpmnkaaGreat

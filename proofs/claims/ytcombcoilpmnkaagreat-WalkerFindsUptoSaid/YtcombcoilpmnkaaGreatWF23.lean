/-
  Texts of this claim, joined (by a program of the claim's author): R7g, R7h, R7i, WFin, OpenG, Open.
-/
import Derived.Test.YtcombcoilpmnkaaGreatWF1
import Derived.Test.YtcombcoilpmnkaaGreatWF22
import Derived.Test.YtcombcoilpmnkaaGreatWF17
import Derived.Test.YtcombcoilpmnkaaGreatWF19
import Derived.Test.YtcombcoilpmnkaaGreatRows
import Derived.Test.YtcombcoilpmnkaaGreatWF2
import Derived.Deep.Slices
import Derived.Deep.Fields
import Derived.ChangeSame
import Derived.Carry
import Derived.ProofKit
import Derived.Test.YtcombcoilpmnkaaGreatWF4
namespace Go.Proofs.YtcombcoilpmnkaaGreat
set_option maxRecDepth 100000
set_option maxHeartbeats 16000000
section
open Go.RowKit Go.Shelf
def ttV (ax te:Int) (nm:List UInt8) (n:Nat):Told (List PredD)→Told StepD
 | .ok ps m=>.ok ⟨ax,te,nm,ps⟩ (n+m)
 | .bad j e=>.bad (n+j) e
def qtested (ax:Int) (l:List UInt8):Told StepD:=match qtest l with
 | .bad j e=>.bad j e
 | .ok t n=>ttV ax t.1 t.2 n (qpreds (l.drop n) [])
def SPost (w:World) (p:Nat) (V:Told StepD) (e:Ending) (w':World):Prop:=match V with
 | .ok x n=>∃ A c,e=.returned (.tuple #[.agg (stC x.axis x.test x.name A x.preds.length c),.agg (stQ ((p+n:Nat):Int) none 0 0 0 0)])∧PredsOwn w' 0 A c x.preds∧Below w.heap.size w w'
 | .bad k er=>∃ ax te nm A n c,e=.returned (.tuple #[.agg (stC ax te nm A n c),.agg (stQ 0 none 0 0 ((p+k:Nat):Int) er)])∧Below w.heap.size w w'
def PsRel (p:Nat) (V:Told (List PredD)) (A:Option Addr) (k c:Nat) (a b r:Int) (w':World):Prop:=match V with
 | .ok ps n=>k=ps.length∧PredsOwn w' 0 A c ps∧a=((p+n:Nat):Int)∧b=0∧r=0
 | .bad j er=>a=0∧b=((p+j:Nat):Int)∧r=er
theorem zFe (s:ByteArray) (p:Nat) (i:Int) (w:World) (ax te:Int) (nm:List UInt8) (hp:p≤s.size) (hs:s.size≤1000000000) (V:Told (List PredD)) (hV:Hid (qpreds (s.data.toList.drop p) []=V)) (hi:i=(p:Int)) :
  Calls Tryz.prog 123 #[.string s,.int .i64 i,.agg (stC ax te nm none 0 0)] w fun e w'=>∃ A k c a b r,e=.returned (.tuple #[.agg (stC ax te nm A k c),.agg (stQ a none 0 0 b r)])∧PsRel p V A k c a b r w'∧Below w.heap.size w w':=by
 subst hi;refine (zMn s p w ax te nm hp hs V hV).mono ?_
 intro e w' h;cases V with
 | ok ps n =>
  obtain ⟨A,c,h1,h2,h3⟩:=h
  exact ⟨A,_,c,_,_,_,h1,⟨rfl,h2,rfl,rfl,rfl⟩,h3⟩
 | bad k er =>
  obtain ⟨A,n,c,h1,h3⟩:=h
  exact ⟨A,n,c,_,_,_,h1,⟨rfl,rfl,rfl⟩,h3⟩
theorem zMK (s:ByteArray) (p:Nat) (w:World) (ax:Int) (hp:p≤s.size) (hs:s.size≤1000000000) (V:Told StepD) (hV:Hid (qtested ax (s.data.toList.drop p)=V)) :
  Calls Tryz.prog 102 #[.string s,.int .i64 p,.agg (stC ax 0 [] none 0 0)] w (SPost w p V):=by
 have HL:=Lib.hid (zAH s)
 have p0:(0:Int)≤(p:Int):=by omega
 have p1:(p:Int)≤s.size:=by omega
 unfold stC
 go_enter Tryz.func102,Tryz.ntmps102
 go_wp2_with fail;obtain ⟨W3,hW3⟩:∃ W3,Hid (((w.alloc (.cells (stC ax 0 [] none 0 0) 45)).alloc (.cells zeroS 45)).alloc (.cells zeroQ 129)=W3):=⟨_,rfl⟩
 have hW3':=hW3.out
 unfold stC zeroS zeroQ at hW3'
 first | rw [hW3'] | (change Calls _ _ _ (((w.alloc (.cells (stC ax 0 [] none 0 0) 45)).alloc (.cells zeroS 45)).alloc (.cells zeroQ 129)) _;rw [hW3.out])
 clear hW3';have hb1:Below w.heap.size w (w.alloc (.cells (stC ax 0 [] none 0 0) 45)):=(Below.refl _ w).alloc (Nat.le_refl _) _
 have HB3:Hid (Below w.heap.size w W3):=by
  show Below _ _ _
  rw [← hW3.out];exact (hb1.alloc hb1.size _).alloc (hb1.alloc hb1.size _).size _
 have H53:Hid (W3.heap[w.heap.size]? = some (.cells (stC ax 0 [] none 0 0) 45 (0,0))):=by
  show _=_
  rw [← hW3.out];exact (Below.heap_alloc _ _ _ (by simp;omega)).trans ((Below.heap_alloc _ _ _ (by simp)).trans (heap_alloc_new w _))
 have H63:Hid (W3.heap[w.heap.size+1]? = some (.cells zeroS 45 (0,0))):=by
  show _=_
  rw [← hW3.out];have h:=heap_alloc_new (w.alloc (.cells (stC ax 0 [] none 0 0) 45)) (.cells zeroS 45)
  rw [show (w.alloc (.cells (stC ax 0 [] none 0 0) 45)).heap.size=w.heap.size+1 by simp] at h
  exact (Below.heap_alloc _ _ _ (by simp)).trans h
 have H73:Hid (W3.heap[w.heap.size+2]? = some (.cells zeroQ 129 (0,0))):=by
  show _=_
  rw [← hW3.out];have h:=heap_alloc_new ((w.alloc (.cells (stC ax 0 [] none 0 0) 45)).alloc (.cells zeroS 45)) (.cells zeroQ 129)
  rw [show ((w.alloc (.cells (stC ax 0 [] none 0 0) 45)).alloc (.cells zeroS 45)).heap.size=w.heap.size+2 by simp] at h
  exact h
 clear hb1 hW3;cases h42:pre [42] (s.data.toList.drop p) with
 | true =>
  have hp1:p+1≤s.size:=by
   have:=zAU h42
   rw [List.length_drop,HL.out] at this;simp at this;omega
  have p2:(p:Int)+1≤s.size:=by omega
  have HV:Hid (V=ttV ax 2 [] 1 (qpreds (s.data.toList.drop (p+1)) [])):=by
   show _=_
   rw [← hV.out];unfold qtested qtest;rw [if_pos h42];simp only
   rw [List.drop_drop]
  have H42:=Lib.hid h42
  clear h42;refine (zAn s p [42] W3 hp hs (by decide) true H42.out).mono ?_
  rintro e v1 ⟨rfl,hb1⟩;have H5:=Lib.hid (zAB hb1 H53.out)
  have H6:=Lib.hid (zAB hb1 H63.out)
  have H7:=Lib.hid (zAB hb1 H73.out)
  have HB:=Lib.hid (HB3.out.trans (hb1.mono HB3.out.size))
  clear hb1 H53 H63 H73 HB3;have fr:=zAV H5.out 1
  have fc:v1.cell? ⟨w.heap.size,1,none⟩=some (.int .i64 0):=zAA H5.out 1 _ rfl
  go_upto_region 3 with (fail)
  clear fr fc;have hc5:(v1.setCell ⟨w.heap.size,1,none⟩ (.int .i64 2)).heap[w.heap.size]? = some (.cells (stC ax 2 [] none 0 0) 45 (0,0)):=Lib.heap_setCell_same (i:=1) H5.out _
  have hc6:=(Below.heap_setCell v1 ⟨w.heap.size,1,none⟩ (.int .i64 2) _ (show w.heap.size+1≠w.heap.size from by omega)).trans H6.out
  have hc7:=(Below.heap_setCell v1 ⟨w.heap.size,1,none⟩ (.int .i64 2) _ (show w.heap.size+2≠w.heap.size from by omega)).trans H7.out
  have hcB:Below w.heap.size w (v1.setCell ⟨w.heap.size,1,none⟩ (.int .i64 2)):=HB.out.setCell (Nat.le_refl _) _
  obtain ⟨v,hv⟩:∃ v,Hid (v1.setCell ⟨w.heap.size,1,none⟩ (.int .i64 2)=v):=⟨_,rfl⟩
  rw [hv.out] at hc5 hc6 hc7 hcB ⊢;have HC5:=Lib.hid hc5
  have HC6:=Lib.hid hc6
  have HC7:=Lib.hid hc7
  have HCB:=Lib.hid hcB
  clear hc5 hc6 hc7 hcB H5 H6 H7 HB;have c0:v.cell? ⟨w.heap.size,0,none⟩=some (.int .i64 ax):=zAA HC5.out 0 _ rfl
  have c1:v.cell? ⟨w.heap.size,1,none⟩=some (.int .i64 2):=zAA HC5.out 1 _ rfl
  have c2:v.cell? ⟨w.heap.size,2,none⟩=some (.string ⟨([]:List UInt8).toArray⟩):=zAA HC5.out 2 _ rfl
  have c3:v.cell? ⟨w.heap.size,3,none⟩=some (.slice none 0 0):=zAA HC5.out 3 _ rfl
  obtain ⟨P,hP⟩:∃ P,Hid (qpreds (s.data.toList.drop (p+1)) []=P):=⟨_,rfl⟩
  go_wp2_with fail;refine (zFe s (p+1) _ v ax 2 [] hp1 hs P hP (by omega)).mono ?_
  rintro e v2 ⟨A2,k2,c2',a2,b2,r2,rfl,hrel,hb2⟩;have HRL:=Lib.hid hrel
  have H6:=Lib.hid (zAB hb2 HC6.out)
  have H7:=Lib.hid (zAB hb2 HC7.out)
  have HB:=Lib.hid (HCB.out.trans (hb2.mono HCB.out.size))
  clear hb2 hrel c0 c1 c2 c3;have G7:=(setRow_other v2 (w.heap.size+1) (w.heap.size+2) (stC ax 2 [] A2 k2 c2') (by omega)).trans H7.out
  go_wp2_with (first | refine wpList_store_row rfl 45 (.tmp 6) (.tmp 18) rfl (w.heap.size+1) (stC ax 2 [] A2 k2 c2') rfl rfl 45 zeroS H6.out (by kernel_rfl) rfl (zBK _ _ _ _ _ _) ?_ | refine wpList_store_row rfl 129 (.tmp 7) (.tmp 19) rfl (w.heap.size+2) (stQ a2 none 0 0 b2 r2) rfl rfl 129 zeroQ G7 (by kernel_rfl) rfl (zBL _ _ _ _ _ _) ?_)
  try simp only [Exit.inBlock,Exit.then]
  have I6:=(setRow_other (v2.setRow (w.heap.size+1) (stC ax 2 [] A2 k2 c2')) (w.heap.size+2) (w.heap.size+1) (stQ a2 none 0 0 b2 r2) (by omega)).trans (setRow_heap v2 (w.heap.size+1) _ (stC ax 2 [] A2 k2 c2') _ _ H6.out)
  have I7:=setRow_heap (v2.setRow (w.heap.size+1) (stC ax 2 [] A2 k2 c2')) (w.heap.size+2) _ (stQ a2 none 0 0 b2 r2) _ _ G7
  have IB:=zAE (g:=w.heap.size+2) (zAE (g:=w.heap.size+1) HB.out (by omega) (stC ax 2 [] A2 k2 c2')) (by omega) (stQ a2 none 0 0 b2 r2)
  refine bodyPost_ret (zAp Tryz.results102 _ _ (w.heap.size+1) (w.heap.size+2) 45 129 (stC ax 2 [] A2 k2 c2') (stQ a2 none 0 0 b2 r2) (0,0) (0,0) _ _ rfl rfl I6 I7 Tryz.underlying45 rfl (by kernel_rfl) Tryz.underlying129 rfl (by kernel_rfl)) rfl ?_
  unfold SPost;rw [HV.out,hP.out];cases P with
  | ok ps m =>
   obtain ⟨h1,h2,h3,h4,h5⟩:=HRL.out
   subst h1;subst h4;subst h5;refine ⟨A2,c2',by show _=Ending.returned _;rw [h3,show ((p+(1+m):Nat):Int)=((p+1+m:Nat):Int) by omega],zAC h2 fun b hb=>?_,IB⟩
   have n6:=zAT h2 H6.out (fun cur h=>by injection h with _ h _;exact absurd h (by decide))
   have n7:=zAT h2 H7.out (fun cur h=>by injection h with _ h _;exact absurd h (by decide))
   rw [setRow_other _ _ _ _ (fun e=>n7 (by rw [← e];exact hb)),setRow_other _ _ _ _ (fun e=>n6 (by rw [← e];exact hb))]
  | bad j er =>
   obtain ⟨h3,h4,h5⟩:=HRL.out
   exact ⟨ax,2,[],A2,k2,c2',by show _=Ending.returned _;rw [h3,h4,h5,show ((p+(1+j):Nat):Int)=((p+1+j:Nat):Int) by omega],IB⟩
 | false =>
  have H42:=Lib.hid h42
  refine (zAn s p [42] W3 hp hs (by decide) false H42.out).mono ?_
  rintro e v1 ⟨rfl,hb1⟩;have H5:=Lib.hid (zAB hb1 H53.out)
  have H6:=Lib.hid (zAB hb1 H63.out)
  have H7:=Lib.hid (zAB hb1 H73.out)
  have HB:=Lib.hid (HB3.out.trans (hb1.mono HB3.out.size))
  clear hb1 H53 H63 H73 HB3;cases hte:pre tText (s.data.toList.drop p) with
  | true =>
   have hp1:p+6≤s.size:=by
    have:=zAU hte
    rw [List.length_drop,HL.out] at this;have h6:tText.length=6:=rfl
    omega
   have p2:(p:Int)+6≤s.size:=by omega
   have HV:Hid (V=ttV ax 3 [] 6 (qpreds (s.data.toList.drop (p+6)) [])):=by
    show _=_
    rw [← hV.out];unfold qtested qtest;rw [if_neg (by rw [h42];decide),if_pos hte]
    simp only
    rw [List.drop_drop]
   have HTE:=Lib.hid hte
   clear h42 hte
   go_wp2_with fail;obtain ⟨w1,hw1⟩:∃ w1,w1=v1:=⟨_,rfl⟩
   subst hw1;have K5:=H5
   have K6:=H6
   have K7:=H7
   have KB:=HB
   clear H5 H6 H7 HB;refine (zAn s p tText w1 hp hs (by decide) true HTE.out).mono ?_
   rintro e v1 ⟨rfl,hb1⟩;have H5:=Lib.hid (zAB hb1 K5.out)
   have H6:=Lib.hid (zAB hb1 K6.out)
   have H7:=Lib.hid (zAB hb1 K7.out)
   have HB:=Lib.hid (KB.out.trans (hb1.mono KB.out.size))
   clear hb1 K5 K6 K7 KB;have fr:=zAV H5.out 1
   have fc:v1.cell? ⟨w.heap.size,1,none⟩=some (.int .i64 0):=zAA H5.out 1 _ rfl
   go_upto_region 6 with (fail)
   clear fr fc;have hc5:(v1.setCell ⟨w.heap.size,1,none⟩ (.int .i64 3)).heap[w.heap.size]? = some (.cells (stC ax 3 [] none 0 0) 45 (0,0)):=Lib.heap_setCell_same (i:=1) H5.out _
   have hc6:=(Below.heap_setCell v1 ⟨w.heap.size,1,none⟩ (.int .i64 3) _ (show w.heap.size+1≠w.heap.size from by omega)).trans H6.out
   have hc7:=(Below.heap_setCell v1 ⟨w.heap.size,1,none⟩ (.int .i64 3) _ (show w.heap.size+2≠w.heap.size from by omega)).trans H7.out
   have hcB:Below w.heap.size w (v1.setCell ⟨w.heap.size,1,none⟩ (.int .i64 3)):=HB.out.setCell (Nat.le_refl _) _
   obtain ⟨v,hv⟩:∃ v,Hid (v1.setCell ⟨w.heap.size,1,none⟩ (.int .i64 3)=v):=⟨_,rfl⟩
   rw [hv.out] at hc5 hc6 hc7 hcB ⊢;have HC5:=Lib.hid hc5
   have HC6:=Lib.hid hc6
   have HC7:=Lib.hid hc7
   have HCB:=Lib.hid hcB
   clear hc5 hc6 hc7 hcB H5 H6 H7 HB;have c0:v.cell? ⟨w.heap.size,0,none⟩=some (.int .i64 ax):=zAA HC5.out 0 _ rfl
   have c1:v.cell? ⟨w.heap.size,1,none⟩=some (.int .i64 3):=zAA HC5.out 1 _ rfl
   have c2:v.cell? ⟨w.heap.size,2,none⟩=some (.string ⟨([]:List UInt8).toArray⟩):=zAA HC5.out 2 _ rfl
   have c3:v.cell? ⟨w.heap.size,3,none⟩=some (.slice none 0 0):=zAA HC5.out 3 _ rfl
   obtain ⟨P,hP⟩:∃ P,Hid (qpreds (s.data.toList.drop (p+6)) []=P):=⟨_,rfl⟩
   go_wp2_with fail;refine (zFe s (p+6) _ v ax 3 [] hp1 hs P hP (by omega)).mono ?_
   rintro e v2 ⟨A2,k2,c2',a2,b2,r2,rfl,hrel,hb2⟩;have HRL:=Lib.hid hrel
   have H6:=Lib.hid (zAB hb2 HC6.out)
   have H7:=Lib.hid (zAB hb2 HC7.out)
   have HB:=Lib.hid (HCB.out.trans (hb2.mono HCB.out.size))
   clear hb2 hrel c0 c1 c2 c3;have G7:=(setRow_other v2 (w.heap.size+1) (w.heap.size+2) (stC ax 3 [] A2 k2 c2') (by omega)).trans H7.out
   go_wp2_with (first | refine wpList_store_row rfl 45 (.tmp 6) (.tmp 29) rfl (w.heap.size+1) (stC ax 3 [] A2 k2 c2') rfl rfl 45 zeroS H6.out (by kernel_rfl) rfl (zBK _ _ _ _ _ _) ?_ | refine wpList_store_row rfl 129 (.tmp 7) (.tmp 30) rfl (w.heap.size+2) (stQ a2 none 0 0 b2 r2) rfl rfl 129 zeroQ G7 (by kernel_rfl) rfl (zBL _ _ _ _ _ _) ?_)
   try simp only [Exit.inBlock,Exit.then]
   have I6:=(setRow_other (v2.setRow (w.heap.size+1) (stC ax 3 [] A2 k2 c2')) (w.heap.size+2) (w.heap.size+1) (stQ a2 none 0 0 b2 r2) (by omega)).trans (setRow_heap v2 (w.heap.size+1) _ (stC ax 3 [] A2 k2 c2') _ _ H6.out)
   have I7:=setRow_heap (v2.setRow (w.heap.size+1) (stC ax 3 [] A2 k2 c2')) (w.heap.size+2) _ (stQ a2 none 0 0 b2 r2) _ _ G7
   have IB:=zAE (g:=w.heap.size+2) (zAE (g:=w.heap.size+1) HB.out (by omega) (stC ax 3 [] A2 k2 c2')) (by omega) (stQ a2 none 0 0 b2 r2)
   refine bodyPost_ret (zAp Tryz.results102 _ _ (w.heap.size+1) (w.heap.size+2) 45 129 (stC ax 3 [] A2 k2 c2') (stQ a2 none 0 0 b2 r2) (0,0) (0,0) _ _ rfl rfl I6 I7 Tryz.underlying45 rfl (by kernel_rfl) Tryz.underlying129 rfl (by kernel_rfl)) rfl ?_
   unfold SPost;rw [HV.out,hP.out];cases P with
   | ok ps m =>
    obtain ⟨h1,h2,h3,h4,h5⟩:=HRL.out
    subst h1;subst h4;subst h5;refine ⟨A2,c2',by show _=Ending.returned _;rw [h3,show ((p+(6+m):Nat):Int)=((p+6+m:Nat):Int) by omega],zAC h2 fun b hb=>?_,IB⟩
    have n6:=zAT h2 H6.out (fun cur h=>by injection h with _ h _;exact absurd h (by decide))
    have n7:=zAT h2 H7.out (fun cur h=>by injection h with _ h _;exact absurd h (by decide))
    rw [setRow_other _ _ _ _ (fun e=>n7 (by rw [← e];exact hb)),setRow_other _ _ _ _ (fun e=>n6 (by rw [← e];exact hb))]
   | bad j er =>
    obtain ⟨h3,h4,h5⟩:=HRL.out
    exact ⟨ax,3,[],A2,k2,c2',by show _=Ending.returned _;rw [h3,h4,h5,show ((p+(6+j):Nat):Int)=((p+6+j:Nat):Int) by omega],IB⟩
  | false =>
   have HTE:=Lib.hid hte
   go_wp2_with fail;obtain ⟨w1,hw1⟩:∃ w1,w1=v1:=⟨_,rfl⟩
   subst hw1;have K5:=H5
   have K6:=H6
   have K7:=H7
   have KB:=HB
   clear H5 H6 H7 HB;refine (zAn s p tText w1 hp hs (by decide) false HTE.out).mono ?_
   rintro e v1 ⟨rfl,hb1⟩;have H5:=Lib.hid (zAB hb1 K5.out)
   have H6:=Lib.hid (zAB hb1 K6.out)
   have H7:=Lib.hid (zAB hb1 K7.out)
   have HB:=Lib.hid (KB.out.trans (hb1.mono KB.out.size))
   clear hb1 K5 K6 K7 KB;cases hno:pre tNode (s.data.toList.drop p) with
   | true =>
    have hp1:p+6≤s.size:=by
     have:=zAU hno
     rw [List.length_drop,HL.out] at this;have h6:tNode.length=6:=rfl
     omega
    have p2:(p:Int)+6≤s.size:=by omega
    have HV:Hid (V=ttV ax 4 [] 6 (qpreds (s.data.toList.drop (p+6)) [])):=by
     show _=_
     rw [← hV.out];unfold qtested qtest;rw [if_neg (by rw [h42];decide),if_neg (by rw [hte];decide),if_pos hno]
     simp only
     rw [List.drop_drop]
    have HNO:=Lib.hid hno
    clear h42 hte hno
    go_wp2_with fail;obtain ⟨w2,hw2⟩:∃ w2,w2=v1:=⟨_,rfl⟩
    subst hw2;have K5:=H5
    have K6:=H6
    have K7:=H7
    have KB:=HB
    clear H5 H6 H7 HB;refine (zAn s p tNode w2 hp hs (by decide) true HNO.out).mono ?_
    rintro e v1 ⟨rfl,hb1⟩;have H5:=Lib.hid (zAB hb1 K5.out)
    have H6:=Lib.hid (zAB hb1 K6.out)
    have H7:=Lib.hid (zAB hb1 K7.out)
    have HB:=Lib.hid (KB.out.trans (hb1.mono KB.out.size))
    clear hb1 K5 K6 K7 KB;have fr:=zAV H5.out 1
    have fc:v1.cell? ⟨w.heap.size,1,none⟩=some (.int .i64 0):=zAA H5.out 1 _ rfl
    go_upto_region 9 with (fail)
    clear fr fc;have hc5:(v1.setCell ⟨w.heap.size,1,none⟩ (.int .i64 4)).heap[w.heap.size]? = some (.cells (stC ax 4 [] none 0 0) 45 (0,0)):=Lib.heap_setCell_same (i:=1) H5.out _
    have hc6:=(Below.heap_setCell v1 ⟨w.heap.size,1,none⟩ (.int .i64 4) _ (show w.heap.size+1≠w.heap.size from by omega)).trans H6.out
    have hc7:=(Below.heap_setCell v1 ⟨w.heap.size,1,none⟩ (.int .i64 4) _ (show w.heap.size+2≠w.heap.size from by omega)).trans H7.out
    have hcB:Below w.heap.size w (v1.setCell ⟨w.heap.size,1,none⟩ (.int .i64 4)):=HB.out.setCell (Nat.le_refl _) _
    obtain ⟨v,hv⟩:∃ v,Hid (v1.setCell ⟨w.heap.size,1,none⟩ (.int .i64 4)=v):=⟨_,rfl⟩
    rw [hv.out] at hc5 hc6 hc7 hcB ⊢;have HC5:=Lib.hid hc5
    have HC6:=Lib.hid hc6
    have HC7:=Lib.hid hc7
    have HCB:=Lib.hid hcB
    clear hc5 hc6 hc7 hcB H5 H6 H7 HB;have c0:v.cell? ⟨w.heap.size,0,none⟩=some (.int .i64 ax):=zAA HC5.out 0 _ rfl
    have c1:v.cell? ⟨w.heap.size,1,none⟩=some (.int .i64 4):=zAA HC5.out 1 _ rfl
    have c2:v.cell? ⟨w.heap.size,2,none⟩=some (.string ⟨([]:List UInt8).toArray⟩):=zAA HC5.out 2 _ rfl
    have c3:v.cell? ⟨w.heap.size,3,none⟩=some (.slice none 0 0):=zAA HC5.out 3 _ rfl
    obtain ⟨P,hP⟩:∃ P,Hid (qpreds (s.data.toList.drop (p+6)) []=P):=⟨_,rfl⟩
    go_wp2_with fail;refine (zFe s (p+6) _ v ax 4 [] hp1 hs P hP (by omega)).mono ?_
    rintro e v2 ⟨A2,k2,c2',a2,b2,r2,rfl,hrel,hb2⟩;have HRL:=Lib.hid hrel
    have H6:=Lib.hid (zAB hb2 HC6.out)
    have H7:=Lib.hid (zAB hb2 HC7.out)
    have HB:=Lib.hid (HCB.out.trans (hb2.mono HCB.out.size))
    clear hb2 hrel c0 c1 c2 c3;have G7:=(setRow_other v2 (w.heap.size+1) (w.heap.size+2) (stC ax 4 [] A2 k2 c2') (by omega)).trans H7.out
    go_wp2_with (first | refine wpList_store_row rfl 45 (.tmp 6) (.tmp 40) rfl (w.heap.size+1) (stC ax 4 [] A2 k2 c2') rfl rfl 45 zeroS H6.out (by kernel_rfl) rfl (zBK _ _ _ _ _ _) ?_ | refine wpList_store_row rfl 129 (.tmp 7) (.tmp 41) rfl (w.heap.size+2) (stQ a2 none 0 0 b2 r2) rfl rfl 129 zeroQ G7 (by kernel_rfl) rfl (zBL _ _ _ _ _ _) ?_)
    try simp only [Exit.inBlock,Exit.then]
    have I6:=(setRow_other (v2.setRow (w.heap.size+1) (stC ax 4 [] A2 k2 c2')) (w.heap.size+2) (w.heap.size+1) (stQ a2 none 0 0 b2 r2) (by omega)).trans (setRow_heap v2 (w.heap.size+1) _ (stC ax 4 [] A2 k2 c2') _ _ H6.out)
    have I7:=setRow_heap (v2.setRow (w.heap.size+1) (stC ax 4 [] A2 k2 c2')) (w.heap.size+2) _ (stQ a2 none 0 0 b2 r2) _ _ G7
    have IB:=zAE (g:=w.heap.size+2) (zAE (g:=w.heap.size+1) HB.out (by omega) (stC ax 4 [] A2 k2 c2')) (by omega) (stQ a2 none 0 0 b2 r2)
    refine bodyPost_ret (zAp Tryz.results102 _ _ (w.heap.size+1) (w.heap.size+2) 45 129 (stC ax 4 [] A2 k2 c2') (stQ a2 none 0 0 b2 r2) (0,0) (0,0) _ _ rfl rfl I6 I7 Tryz.underlying45 rfl (by kernel_rfl) Tryz.underlying129 rfl (by kernel_rfl)) rfl ?_
    unfold SPost;rw [HV.out,hP.out];cases P with
    | ok ps m =>
     obtain ⟨h1,h2,h3,h4,h5⟩:=HRL.out
     subst h1;subst h4;subst h5;refine ⟨A2,c2',by show _=Ending.returned _;rw [h3,show ((p+(6+m):Nat):Int)=((p+6+m:Nat):Int) by omega],zAC h2 fun b hb=>?_,IB⟩
     have n6:=zAT h2 H6.out (fun cur h=>by injection h with _ h _;exact absurd h (by decide))
     have n7:=zAT h2 H7.out (fun cur h=>by injection h with _ h _;exact absurd h (by decide))
     rw [setRow_other _ _ _ _ (fun e=>n7 (by rw [← e];exact hb)),setRow_other _ _ _ _ (fun e=>n6 (by rw [← e];exact hb))]
    | bad j er =>
     obtain ⟨h3,h4,h5⟩:=HRL.out
     exact ⟨ax,4,[],A2,k2,c2',by show _=Ending.returned _;rw [h3,h4,h5,show ((p+(6+j):Nat):Int)=((p+6+j:Nat):Int) by omega],IB⟩
   | false =>
    have HNO:=Lib.hid hno
    obtain ⟨n1,hn1⟩:∃ n1,Hid (partN (s.data.toList.drop p)=n1):=⟨_,rfl⟩
    obtain ⟨k,hk⟩:∃ k,Hid (p+n1=k):=⟨_,rfl⟩
    have hnl:k≤s.size:=by
     have:=zCB (s.data.toList.drop p)
     rw [hn1.out,List.length_drop,HL.out] at this;have:=hk.out;omega
    obtain ⟨nm,hnm⟩:∃ nm,Hid ((s.data.toList.drop p).take n1=nm):=⟨_,rfl⟩
    have hext:Hid (s.extract p k=⟨nm.toArray⟩):=by
     show _=_
     rw [zFN (s.extract p k),Lib.extract_data,← hnm.out,show k-p=n1 by have:=hk.out;omega]
    have hnml:nm.length≤1000000000:=by rw [← hnm.out,List.length_take,List.length_drop,HL.out];omega
    have i2:(p:Int)≤k:=by have:=hk.out;omega
    have i3:(k:Int)≤s.size:=by omega
    obtain ⟨bn,hbn⟩:∃ b,Hid (nameL nm=b):=⟨_,rfl⟩
    have hqn:Hid (qname (s.data.toList.drop p)=if bn=false then .bad 0 70 else .ok nm n1):=by show _=_;unfold qname;rw [hn1.out,hnm.out,hbn.out]
    have HNM:=Lib.hid hnml
    have HVQ:Hid (V=match qname (s.data.toList.drop p) with | .bad j e=>.bad j e | .ok u n=>ttV ax 1 u n (qpreds ((s.data.toList.drop p).drop n) [])):=by
     show _=_
     rw [← hV.out];unfold qtested qtest;rw [if_neg (by rw [h42];decide),if_neg (by rw [hte];decide),if_neg (by rw [hno];decide)]
     cases qname (s.data.toList.drop p) <;> rfl
    clear h42 hte hno hnml
    go_wp2_with fail;obtain ⟨w2,hw2⟩:∃ w2,w2=v1:=⟨_,rfl⟩
    subst hw2;have K5:=H5
    have K6:=H6
    have K7:=H7
    have KB:=HB
    clear H5 H6 H7 HB;refine (zAn s p tNode w2 hp hs (by decide) false HNO.out).mono ?_
    rintro e v1 ⟨rfl,hb1⟩;have H5:=Lib.hid (zAB hb1 K5.out)
    have H6:=Lib.hid (zAB hb1 K6.out)
    have H7:=Lib.hid (zAB hb1 K7.out)
    have HB:=Lib.hid (KB.out.trans (hb1.mono KB.out.size))
    clear hb1 K5 K6 K7 KB
    go_wp2_with fail;refine (zHq s p v1 hp hs k (by show _=_;rw [hn1.out];exact hk.out)).mono ?_
    rintro e w4 ⟨rfl,hb4⟩;have K5:=Lib.hid (zAB hb4 H5.out)
    have K6:=Lib.hid (zAB hb4 H6.out)
    have K7:=Lib.hid (zAB hb4 H7.out)
    have KB:=Lib.hid (HB.out.trans (hb4.mono HB.out.size))
    clear H5 H6 H7 HB hb4
    go_upto_region 11 with (fail)
    obtain ⟨v1,hv1⟩:∃ v1,v1=w4:=⟨_,rfl⟩
    subst hv1;have H5:=K5
    have H6:=K6
    have H7:=K7
    have HB:=KB
    clear K5 K6 K7 KB;have fr:=zAV H5.out 1
    have fc:v1.cell? ⟨w.heap.size,1,none⟩=some (.int .i64 0):=zAA H5.out 1 _ rfl
    go_upto_region 12 with (fail)
    clear fr fc;have hc5:(v1.setCell ⟨w.heap.size,1,none⟩ (.int .i64 1)).heap[w.heap.size]? = some (.cells (stC ax 1 [] none 0 0) 45 (0,0)):=Lib.heap_setCell_same (i:=1) H5.out _
    have hc6:=(Below.heap_setCell v1 ⟨w.heap.size,1,none⟩ (.int .i64 1) _ (show w.heap.size+1≠w.heap.size from by omega)).trans H6.out
    have hc7:=(Below.heap_setCell v1 ⟨w.heap.size,1,none⟩ (.int .i64 1) _ (show w.heap.size+2≠w.heap.size from by omega)).trans H7.out
    have hcB:Below w.heap.size w (v1.setCell ⟨w.heap.size,1,none⟩ (.int .i64 1)):=HB.out.setCell (Nat.le_refl _) _
    obtain ⟨v,hv⟩:∃ v,Hid (v1.setCell ⟨w.heap.size,1,none⟩ (.int .i64 1)=v):=⟨_,rfl⟩
    rw [hv.out] at hc5 hc6 hc7 hcB ⊢;have HC5:=Lib.hid hc5
    have HC6:=Lib.hid hc6
    have HC7:=Lib.hid hc7
    have HCB:=Lib.hid hcB
    clear hc5 hc6 hc7 hcB H5 H6 H7 HB;have fr:=zAV HC5.out 2
    have fc:v.cell? ⟨w.heap.size,2,none⟩=some (.string ⟨#[]⟩):=zAA HC5.out 2 _ rfl
    go_upto_region 13 with (fail)
    clear fr fc;rw [hext.out];have hd5:(v.setCell ⟨w.heap.size,2,none⟩ (.string ⟨nm.toArray⟩)).heap[w.heap.size]? = some (.cells (stC ax 1 nm none 0 0) 45 (0,0)):=Lib.heap_setCell_same (i:=2) HC5.out _
    have hd6:=(Below.heap_setCell v ⟨w.heap.size,2,none⟩ (.string ⟨nm.toArray⟩) _ (show w.heap.size+1≠w.heap.size from by omega)).trans HC6.out
    have hd7:=(Below.heap_setCell v ⟨w.heap.size,2,none⟩ (.string ⟨nm.toArray⟩) _ (show w.heap.size+2≠w.heap.size from by omega)).trans HC7.out
    have hdB:Below w.heap.size w (v.setCell ⟨w.heap.size,2,none⟩ (.string ⟨nm.toArray⟩)):=HCB.out.setCell (Nat.le_refl _) _
    obtain ⟨u,hu⟩:∃ u,Hid (v.setCell ⟨w.heap.size,2,none⟩ (.string ⟨nm.toArray⟩)=u):=⟨_,rfl⟩
    rw [hu.out] at hd5 hd6 hd7 hdB ⊢;have c2:u.cell? ⟨w.heap.size,2,none⟩=some (.string ⟨nm.toArray⟩):=zAA hd5 2 _ rfl
    have D5:=Lib.hid hd5
    have D6:=Lib.hid hd6
    have D7:=Lib.hid hd7
    have DB:=Lib.hid hdB
    clear hd5 hd6 hd7 hdB HC5 HC6 HC7 HCB
    go_wp2_with fail;clear c2;refine (zCj ⟨nm.toArray⟩ u (by show nm.toArray.size≤_;have:=HNM.out;simp;omega) bn (by show nameL nm.toArray.toList=_;simpa using hbn.out)).mono ?_
    rintro e wc ⟨rfl,hb6⟩;have HC5:=Lib.hid (zAB hb6 D5.out)
    have HC6:=Lib.hid (zAB hb6 D6.out)
    have HC7:=Lib.hid (zAB hb6 D7.out)
    have HCB:=Lib.hid (DB.out.trans (hb6.mono DB.out.size))
    clear D5 D6 D7 DB hb6;cases bn with
    | true =>
     have HV:Hid (V=ttV ax 1 nm n1 (qpreds (s.data.toList.drop (p+n1)) [])):=by
      show _=_
      rw [HVQ.out,hqn.out,if_neg (by decide)]
      simp only
      rw [List.drop_drop]
     have hkq:k=p+n1:=hk.out.symm
     subst hkq;have c0:wc.cell? ⟨w.heap.size,0,none⟩=some (.int .i64 ax):=zAA HC5.out 0 _ rfl
     have c1:wc.cell? ⟨w.heap.size,1,none⟩=some (.int .i64 1):=zAA HC5.out 1 _ rfl
     have c2:wc.cell? ⟨w.heap.size,2,none⟩=some (.string ⟨(nm:List UInt8).toArray⟩):=zAA HC5.out 2 _ rfl
     have c3:wc.cell? ⟨w.heap.size,3,none⟩=some (.slice none 0 0):=zAA HC5.out 3 _ rfl
     obtain ⟨P,hP⟩:∃ P,Hid (qpreds (s.data.toList.drop (p+n1)) []=P):=⟨_,rfl⟩
     go_wp2_with fail;refine (zFe s (p+n1) _ wc ax 1 nm hnl hs P hP (by omega)).mono ?_
     rintro e v2 ⟨A2,k2,c2',a2,b2,r2,rfl,hrel,hb2⟩;have HRL:=Lib.hid hrel
     have H6:=Lib.hid (zAB hb2 HC6.out)
     have H7:=Lib.hid (zAB hb2 HC7.out)
     have HB:=Lib.hid (HCB.out.trans (hb2.mono HCB.out.size))
     clear hb2 hrel c0 c1 c2 c3;have G7:=(setRow_other v2 (w.heap.size+1) (w.heap.size+2) (stC ax 1 nm A2 k2 c2') (by omega)).trans H7.out
     go_wp2_with (first | refine wpList_store_row rfl 45 (.tmp 6) (.tmp 62) rfl (w.heap.size+1) (stC ax 1 nm A2 k2 c2') rfl rfl 45 zeroS H6.out (by kernel_rfl) rfl (zBK _ _ _ _ _ _) ?_ | refine wpList_store_row rfl 129 (.tmp 7) (.tmp 63) rfl (w.heap.size+2) (stQ a2 none 0 0 b2 r2) rfl rfl 129 zeroQ G7 (by kernel_rfl) rfl (zBL _ _ _ _ _ _) ?_)
     try simp only [Exit.inBlock,Exit.then]
     have I6:=(setRow_other (v2.setRow (w.heap.size+1) (stC ax 1 nm A2 k2 c2')) (w.heap.size+2) (w.heap.size+1) (stQ a2 none 0 0 b2 r2) (by omega)).trans (setRow_heap v2 (w.heap.size+1) _ (stC ax 1 nm A2 k2 c2') _ _ H6.out)
     have I7:=setRow_heap (v2.setRow (w.heap.size+1) (stC ax 1 nm A2 k2 c2')) (w.heap.size+2) _ (stQ a2 none 0 0 b2 r2) _ _ G7
     have IB:=zAE (g:=w.heap.size+2) (zAE (g:=w.heap.size+1) HB.out (by omega) (stC ax 1 nm A2 k2 c2')) (by omega) (stQ a2 none 0 0 b2 r2)
     refine bodyPost_ret (zAp Tryz.results102 _ _ (w.heap.size+1) (w.heap.size+2) 45 129 (stC ax 1 nm A2 k2 c2') (stQ a2 none 0 0 b2 r2) (0,0) (0,0) _ _ rfl rfl I6 I7 Tryz.underlying45 rfl (by kernel_rfl) Tryz.underlying129 rfl (by kernel_rfl)) rfl ?_
     unfold SPost;rw [HV.out,hP.out];cases P with
     | ok ps m =>
      obtain ⟨h1,h2,h3,h4,h5⟩:=HRL.out
      subst h1;subst h4;subst h5;refine ⟨A2,c2',by show _=Ending.returned _;rw [h3,show ((p+(n1+m):Nat):Int)=((p+n1+m:Nat):Int) by omega],zAC h2 fun b hb=>?_,IB⟩
      have n6:=zAT h2 H6.out (fun cur h=>by injection h with _ h _;exact absurd h (by decide))
      have n7:=zAT h2 H7.out (fun cur h=>by injection h with _ h _;exact absurd h (by decide))
      rw [setRow_other _ _ _ _ (fun e=>n7 (by rw [← e];exact hb)),setRow_other _ _ _ _ (fun e=>n6 (by rw [← e];exact hb))]
     | bad j er =>
      obtain ⟨h3,h4,h5⟩:=HRL.out
      exact ⟨ax,1,nm,A2,k2,c2',by show _=Ending.returned _;rw [h3,h4,h5,show ((p+(n1+j):Nat):Int)=((p+n1+j:Nat):Int) by omega],IB⟩
    | false =>
     have HV:Hid (V=.bad 0 70):=by
      show _=_
      rw [HVQ.out,hqn.out,if_pos rfl]
     have H5:=HC5
     have H6:=HC6
     have H7:=HC7
     have HB:=HCB
     clear HC5 HC6 HC7 HCB;have HZ:Hid (w.heap.size+2<wc.heap.size):=(Array.getElem?_eq_some_iff.1 H7.out).1
     go_wp2_with fail;have HSV:Hid (∀ V:World,V.heap[w.heap.size]? = some (.cells (stC ax 1 nm none 0 0) 45 (0,0))→(fun V=>V.cell? ⟨w.heap.size,0,none⟩=some (.int .i64 ax)∧V.cell? ⟨w.heap.size,1,none⟩=some (.int .i64 1)∧V.cell? ⟨w.heap.size,2,none⟩=some (.string ⟨nm.toArray⟩)∧V.cell? ⟨w.heap.size,3,none⟩=some (.slice none 0 0)) V):=fun V h=>⟨zAA h 0 _ rfl,zAA h 1 _ rfl,zAA h 2 _ rfl,zAA h 3 _ rfl⟩
     refine wp_region_held_drew (S:=fun V=>V.cell? ⟨w.heap.size,0,none⟩=some (.int .i64 ax)∧V.cell? ⟨w.heap.size,1,none⟩=some (.int .i64 1)∧V.cell? ⟨w.heap.size,2,none⟩=some (.string ⟨nm.toArray⟩)∧V.cell? ⟨w.heap.size,3,none⟩=some (.slice none 0 0)) (by kernel_rfl) (HSV.out _ H5.out) (fun hHeld=>?_)
     refine tkv 0 (h:=tkv 1 (h:=?_))
     refine rdy 2 (fun K hK=>?_)
     go_simp
     refine (zHj ((p:Int)) ((70:Int)) wc.drew).mono ?_
     rintro e vf ⟨rfl,hbf⟩;have hbf':Below wc.heap.size wc vf:=⟨hbf.os,hbf.tape,hbf.output,hbf.size,hbf.block⟩
     have F5:=zAB hbf' H5.out
     have F6:=zAB hbf' H6.out
     have F7:=zAB hbf' H7.out
     have FB:=HB.out.trans (hbf'.mono HB.out.size)
     refine hK.out _ _ (HSV.out _ F5) (fun hHeld=>?_)
     clear hK K
     try go_frame
     refine rdy 3 (fun K hK=>?_)
     refine zAb rfl 45 (.tmp 6) (.tmp 55) rfl (w.heap.size+1) #[.int .i64 ax,.int .i64 1,.string ⟨nm.toArray⟩,.slice none 0 0] rfl rfl 45 zeroS F6 (by kernel_rfl) rfl (zBK ax 1 nm none 0 0) ?_
     have G5:=(setRow_other vf (w.heap.size+1) w.heap.size (stC ax 1 nm none 0 0) (by omega)).trans F5
     have G6:=setRow_heap vf (w.heap.size+1) _ (stC ax 1 nm none 0 0) _ _ F6
     have G7:=(setRow_other vf (w.heap.size+1) (w.heap.size+2) (stC ax 1 nm none 0 0) (by omega)).trans F7
     have GB:=zAE (g:=w.heap.size+1) FB (by omega) (stC ax 1 nm none 0 0)
     refine hK.out _ _ (HSV.out _ G5) (fun hHeld=>?_)
     clear hK K
     try go_frame
     refine rdy 4 (fun K hK=>?_)
     refine zAb rfl 129 (.tmp 7) (.tmp 57) rfl (w.heap.size+2) (stQ 0 none 0 0 ((p:Int)) ((70:Int))) rfl rfl 129 zeroQ G7 (by kernel_rfl) rfl (zBL _ _ _ _ _ _) ?_
     have I5:=(setRow_other (vf.setRow (w.heap.size+1) (stC ax 1 nm none 0 0)) (w.heap.size+2) w.heap.size (stQ 0 none 0 0 ((p:Int)) ((70:Int))) (by omega)).trans G5
     have I6:=(setRow_other (vf.setRow (w.heap.size+1) (stC ax 1 nm none 0 0)) (w.heap.size+2) (w.heap.size+1) (stQ 0 none 0 0 ((p:Int)) ((70:Int))) (by omega)).trans G6
     have I7:=setRow_heap (vf.setRow (w.heap.size+1) (stC ax 1 nm none 0 0)) (w.heap.size+2) _ (stQ 0 none 0 0 ((p:Int)) ((70:Int))) _ _ G7
     have IB:=zAE (g:=w.heap.size+2) GB (by omega) (stQ 0 none 0 0 ((p:Int)) ((70:Int)))
     refine hK.out _ _ (HSV.out _ I5) (fun hHeld=>?_)
     clear hK K
     try go_frame
     refine wpAnyH_done (by kernel_rfl) ?_ _
     clear hHeld
     go_wp2_with fail
     try simp only [Exit.inBlock,Exit.then]
     refine bodyPost_ret (zAp Tryz.results102 _ _ (w.heap.size+1) (w.heap.size+2) 45 129 (stC ax 1 nm none 0 0) (stQ 0 none 0 0 ((p:Int)) ((70:Int))) (0,0) (0,0) _ _ rfl rfl I6 I7 Tryz.underlying45 rfl (by kernel_rfl) Tryz.underlying129 rfl (by kernel_rfl)) rfl ?_
     unfold SPost;rw [HV.out];exact ⟨ax,1,nm,none,0,0,by rfl,IB⟩
end
section
open Go.RowKit Go.Shelf
theorem zGl {l:List UInt8} (h2:pre [46,46] l=false) (h1:pre [46] l=false):qstep l=(qtested (if axisN l=0 then 1 else axisN l) (l.drop (axisT (axisN l)).length)).past (axisT (axisN l)).length:=by
 unfold qstep qtested;rw [if_neg (by rw [h2];decide),if_neg (by rw [h1];decide)]
 simp only
 cases qtest (l.drop (axisT (axisN l)).length) with
 | bad j e=>rfl
 | ok t n =>
  simp only [List.drop_drop];cases qpreds (l.drop ((axisT (axisN l)).length+n)) [] with
  | bad j e=>simp [ttV,Told.past,Nat.add_assoc]
  | ok ps m =>
   simp only [ttV,Told.past,Nat.add_assoc]
def axes7C:Array Value:=#[.string ⟨#[99,104,105,108,100,58,58]⟩,.string ⟨#[100,101,115,99,101,110,100,97,110,116,58,58]⟩,.string ⟨#[100,101,115,99,101,110,100,97,110,116,45,111,114,45,115,101,108,102,58,58]⟩,.string ⟨#[112,97,114,101,110,116,58,58]⟩,.string ⟨#[97,110,99,101,115,116,111,114,58,58]⟩,.string ⟨#[102,111,108,108,111,119,105,110,103,45,115,105,98,108,105,110,103,58,58]⟩,.string ⟨#[112,114,101,99,101,100,105,110,103,45,115,105,98,108,105,110,103,58,58]⟩,.string ⟨#[115,101,108,102,58,58]⟩]
def SRel (p:Nat) (V:Told StepD) (ax te:Int) (nm:List UInt8) (A:Option Addr) (k c:Nat) (a b r:Int) (w':World):Prop:=match V with
 | .ok x n=>ax=x.axis∧te=x.test∧nm=x.name∧k=x.preds.length∧PredsOwn w' 0 A c x.preds∧a=((p+n:Nat):Int)∧b=0∧r=0
 | .bad j er=>a=0∧b=((p+j:Nat):Int)∧r=er
theorem SPost.any {w w':World} {p:Nat} {V:Told StepD} {e:Ending} (h:SPost w p V e w'):∃ ax te nm A k c a b r,e=.returned (.tuple #[.agg (stC ax te nm A k c),.agg (stQ a none 0 0 b r)])∧SRel p V ax te nm A k c a b r w'∧Below w.heap.size w w':=by
 cases V with
 | ok x n =>
  obtain ⟨A,c,h1,h2,h3⟩:=h
  exact ⟨_,_,_,A,_,c,_,_,_,h1,⟨rfl,rfl,rfl,rfl,h2,rfl,rfl,rfl⟩,h3⟩
 | bad k er =>
  obtain ⟨ax,te,nm,A,n,c,h1,h3⟩:=h
  exact ⟨ax,te,nm,A,n,c,_,_,_,h1,⟨rfl,rfl,rfl⟩,h3⟩
theorem zH6 (s:ByteArray) (p:Nat) (i:Int) (w:World) (ax:Int) (hp:p≤s.size) (hs:s.size≤1000000000) (V:Told StepD) (hV:Hid (qtested ax (s.data.toList.drop p)=V)) (hi:i=(p:Int)) :
  Calls Tryz.prog 102 #[.string s,.int .i64 i,.agg (stC ax 0 [] none 0 0)] w fun e w'=>∃ ax te nm A k c a b r,e=.returned (.tuple #[.agg (stC ax te nm A k c),.agg (stQ a none 0 0 b r)])∧SRel p V ax te nm A k c a b r w'∧Below w.heap.size w w':=by
 subst hi;exact (zMK s p w ax hp hs V hV).mono fun e w' h=>SPost.any h
theorem zM4 (s:ByteArray) (p:Nat) (w:World) (hp:p≤s.size) (hs:s.size≤1000000000) (V:Told StepD) (hV:Hid (qstep (s.data.toList.drop p)=V)) :
  Calls Tryz.prog 67 #[.string s,.int .i64 p] w (SPost w p V):=by
 have HL:=Lib.hid (zAH s)
 have p0:(0:Int)≤(p:Int):=by omega
 have p1:(p:Int)≤s.size:=by omega
 go_enter Tryz.func67,Tryz.ntmps67
 go_wp2_with fail;obtain ⟨W3,hW3⟩:∃ W3,Hid ((w.alloc (.cells zeroS 45)).alloc (.cells zeroQ 129)=W3):=⟨_,rfl⟩
 change Calls _ _ _ ((w.alloc (.cells zeroS 45)).alloc (.cells zeroQ 129)) _
 rw [hW3.out];have hb1:Below w.heap.size w (w.alloc (.cells zeroS 45)):=(Below.refl _ w).alloc (Nat.le_refl _) _
 have HB3:Hid (Below w.heap.size w W3):=by
  show Below _ _ _
  rw [← hW3.out];exact hb1.alloc hb1.size _
 have H63:Hid (W3.heap[w.heap.size]? = some (.cells zeroS 45 (0,0))):=by
  show _=_
  rw [← hW3.out];exact (Below.heap_alloc _ _ _ (by simp)).trans (heap_alloc_new w _)
 have H73:Hid (W3.heap[w.heap.size+1]? = some (.cells zeroQ 129 (0,0))):=by
  show _=_
  rw [← hW3.out];have h:=heap_alloc_new (w.alloc (.cells zeroS 45)) (.cells zeroQ 129)
  rw [show (w.alloc (.cells zeroS 45)).heap.size=w.heap.size+1 by simp] at h
  exact h
 clear hb1 hW3;cases h2:pre [46,46] (s.data.toList.drop p) with
 | true =>
  have hp2:p+2≤s.size:=by
   have:=zAU h2
   rw [List.length_drop,HL.out] at this;simp at this;omega
  have p2:(p:Int)+2≤s.size:=by omega
  have HV:Hid (V=.ok ⟨4,4,[],[]⟩ 2):=by show _=_;rw [← hV.out];unfold qstep;rw [if_pos h2]
  have H2:=Lib.hid h2
  clear h2;refine (zAn s p [46,46] W3 hp hs (by decide) true H2.out).mono ?_
  rintro e v1 ⟨rfl,hb1⟩;have H6:=Lib.hid (zAB hb1 H63.out)
  have H7:=Lib.hid (zAB hb1 H73.out)
  have HB:=Lib.hid (HB3.out.trans (hb1.mono HB3.out.size))
  clear hb1;have G7:=(setRow_other v1 w.heap.size (w.heap.size+1) (stC 4 4 [] none 0 0) (by omega)).trans H7.out
  go_wp2_with (first | refine wpList_store_row rfl 45 (.tmp 4) (.tmp 12) rfl w.heap.size (stC 4 4 [] none 0 0) rfl rfl 45 zeroS H6.out (by kernel_rfl) rfl (zBK _ _ _ _ _ _) ?_ | refine wpList_store_row rfl 129 (.tmp 5) (.tmp 15) rfl (w.heap.size+1) (stQ ((p:Int)+2) none 0 0 0 0) rfl rfl 129 zeroQ G7 (by kernel_rfl) rfl (zBL _ _ _ _ _ _) ?_)
  try simp only [Exit.inBlock,Exit.then]
  have I6:=(setRow_other (World.setRow v1 w.heap.size (stC 4 4 [] none 0 0)) (w.heap.size+1) w.heap.size (stQ ((p:Int)+2) none 0 0 0 0) (by omega)).trans (setRow_heap v1 w.heap.size _ (stC 4 4 [] none 0 0) _ _ H6.out)
  have I7:=setRow_heap (World.setRow v1 w.heap.size (stC 4 4 [] none 0 0)) (w.heap.size+1) _ (stQ ((p:Int)+2) none 0 0 0 0) _ _ G7
  have IB:=zAE (g:=w.heap.size+1) (zAE (g:=w.heap.size) HB.out (by omega) (stC 4 4 [] none 0 0)) (by omega) (stQ ((p:Int)+2) none 0 0 0 0)
  refine bodyPost_ret (zAp Tryz.results67 _ _ w.heap.size (w.heap.size+1) 45 129 (stC 4 4 [] none 0 0) (stQ ((p:Int)+2) none 0 0 0 0) (0,0) (0,0) _ _ rfl rfl I6 I7 Tryz.underlying45 rfl (by kernel_rfl) Tryz.underlying129 rfl (by kernel_rfl)) rfl ?_
  unfold SPost;rw [HV.out];exact ⟨none,0,rfl,⟨by simp,.inl ⟨rfl,rfl⟩⟩,IB⟩
 | false =>
  have H2:=Lib.hid h2
  refine (zAn s p [46,46] W3 hp hs (by decide) false H2.out).mono ?_
  rintro e v1 ⟨rfl,hb1⟩;have H61:=Lib.hid (zAB hb1 H63.out)
  have H71:=Lib.hid (zAB hb1 H73.out)
  have HB1:=Lib.hid (HB3.out.trans (hb1.mono HB3.out.size))
  clear hb1 H63 H73 HB3;cases h1:pre [46] (s.data.toList.drop p) with
  | true =>
   have hp2:p+1≤s.size:=by
    have:=zAU h1
    rw [List.length_drop,HL.out] at this;simp at this;omega
   have p2:(p:Int)+1≤s.size:=by omega
   have HV:Hid (V=.ok ⟨8,4,[],[]⟩ 1):=by show _=_;rw [← hV.out];unfold qstep;rw [if_neg (by rw [h2];decide),if_pos h1]
   have H1:=Lib.hid h1
   clear h1 h2
   go_wp2_with fail;refine (zAn s p [46] v1 hp hs (by decide) true H1.out).mono ?_
   rintro e v2 ⟨rfl,hb2⟩;have H6:=Lib.hid (zAB hb2 H61.out)
   have H7:=Lib.hid (zAB hb2 H71.out)
   have HB:=Lib.hid (HB1.out.trans (hb2.mono HB1.out.size))
   clear hb2;have G7:=(setRow_other v2 w.heap.size (w.heap.size+1) (stC 8 4 [] none 0 0) (by omega)).trans H7.out
   go_wp2_with (first | refine wpList_store_row rfl 45 (.tmp 4) (.tmp 19) rfl w.heap.size (stC 8 4 [] none 0 0) rfl rfl 45 zeroS H6.out (by kernel_rfl) rfl (zBK _ _ _ _ _ _) ?_ | refine wpList_store_row rfl 129 (.tmp 5) (.tmp 22) rfl (w.heap.size+1) (stQ ((p:Int)+1) none 0 0 0 0) rfl rfl 129 zeroQ G7 (by kernel_rfl) rfl (zBL _ _ _ _ _ _) ?_)
   try simp only [Exit.inBlock,Exit.then]
   have I6:=(setRow_other (World.setRow v2 w.heap.size (stC 8 4 [] none 0 0)) (w.heap.size+1) w.heap.size (stQ ((p:Int)+1) none 0 0 0 0) (by omega)).trans (setRow_heap v2 w.heap.size _ (stC 8 4 [] none 0 0) _ _ H6.out)
   have I7:=setRow_heap (World.setRow v2 w.heap.size (stC 8 4 [] none 0 0)) (w.heap.size+1) _ (stQ ((p:Int)+1) none 0 0 0 0) _ _ G7
   have IB:=zAE (g:=w.heap.size+1) (zAE (g:=w.heap.size) HB.out (by omega) (stC 8 4 [] none 0 0)) (by omega) (stQ ((p:Int)+1) none 0 0 0 0)
   refine bodyPost_ret (zAp Tryz.results67 _ _ w.heap.size (w.heap.size+1) 45 129 (stC 8 4 [] none 0 0) (stQ ((p:Int)+1) none 0 0 0 0) (0,0) (0,0) _ _ rfl rfl I6 I7 Tryz.underlying45 rfl (by kernel_rfl) Tryz.underlying129 rfl (by kernel_rfl)) rfl ?_
   unfold SPost;rw [HV.out];exact ⟨none,0,rfl,⟨by simp,.inl ⟨rfl,rfl⟩⟩,IB⟩
  | false =>
   have H1:=Lib.hid h1
   obtain ⟨x,hx⟩:∃ x,Hid (axisN (s.data.toList.drop p)=x):=⟨_,rfl⟩
   have HVQ:Hid (V=(qtested (if x=0 then 1 else (x:Int)) (s.data.toList.drop (p+(axisT x).length))).past (axisT x).length):=by
    show _=_
    rw [← hV.out,zGl h2 h1,hx.out,List.drop_drop]
   clear h1 h2
   go_wp2_with fail;refine (zAn s p [46] v1 hp hs (by decide) false H1.out).mono ?_
   rintro e v2 ⟨rfl,hb2⟩;have H62:=Lib.hid (zAB hb2 H61.out)
   have H72:=Lib.hid (zAB hb2 H71.out)
   have HB2:=Lib.hid (HB1.out.trans (hb2.mono HB1.out.size))
   clear hb2 H61 H71 HB1
   go_wp2_with fail;obtain ⟨va,hva⟩:∃ va,Hid ((v2.alloc (.cells (stC 1 0 [] none 0 0) 45)).alloc (.cells axes7C 9)=va):=⟨_,rfl⟩
   have hva':=hva.out
   unfold stC axes7C at hva';rw [hva'];clear hva';have hb3:Below v2.heap.size v2 (v2.alloc (.cells (stC 1 0 [] none 0 0) 45)):=(Below.refl _ v2).alloc (Nat.le_refl _) _
   have hb4:Below v2.heap.size v2 va:=by rw [← hva.out];exact hb3.alloc hb3.size _
   obtain ⟨g6,hg6⟩:∃ g,Hid (v2.heap.size=g):=⟨_,rfl⟩
   have HS6:Hid (va.heap[g6]? = some (.cells (stC 1 0 [] none 0 0) 45 (0,0))):=by
    show _=_
    rw [← hva.out,← hg6.out];exact (Below.heap_alloc _ _ _ (by simp)).trans (heap_alloc_new v2 _)
   have HSA:Hid (va.heap[g6+1]? = some (.cells axes7C 9 (0,0))):=by
    show _=_
    rw [← hva.out,← hg6.out];have h:=heap_alloc_new (v2.alloc (.cells (stC 1 0 [] none 0 0) 45)) (.cells axes7C 9)
    rw [show (v2.alloc (.cells (stC 1 0 [] none 0 0) 45)).heap.size=v2.heap.size+1 by simp] at h
    exact h
   have H64:=Lib.hid (zAB hb4 H62.out)
   have H74:=Lib.hid (zAB hb4 H72.out)
   have HB4:=Lib.hid (HB2.out.trans (hb4.mono HB2.out.size))
   have HZ:Hid (w.heap.size+1<g6):=by show _<_;rw [← hg6.out];exact (Array.getElem?_eq_some_iff.1 H72.out).1
   rw [hg6.out];clear hb3 hb4 hva H62 H72 HB2
   go_loopw [1,8] (fun a i wr=>∃ (j:Nat),a=.int .i64 (p:Int)∧j≤8∧i=.int .i64 (j:Int)∧Hid (axisF (8-j) (j+1) (s.data.toList.drop p)=x)∧Hid (wr.heap[g6]? = some (.cells (stC 1 0 [] none 0 0) 45 (0,0)))∧Hid (wr.heap[g6+1]? = some (.cells axes7C 9 (0,0)))∧Hid (wr.heap[w.heap.size]? = some (.cells zeroS 45 (0,0)))∧Hid (wr.heap[w.heap.size+1]? = some (.cells zeroQ 129 (0,0)))∧Hid (Below w.heap.size w wr)) (fun _ i _=>8-(intOf i).toNat)
   case atStart=>exact ⟨0,rfl,by omega,rfl,hx.out,HS6.out,HSA.out,H64.out,H74.out,HB4.out⟩
   case round =>
    obtain ⟨j,rfl,hj,rfl,hax,hs6,hsA,h6,h7,hbl⟩:=hrel
    clear HS6 HSA H64 H74 HB4;have j0:(0:Int)≤(j:Int):=by omega
    by_cases hj8:j<8
    ·have j1:(j:Int)<8:=by omega
     obtain ⟨T,hT⟩:∃ T,Hid (axisT (j+1)=T):=⟨_,rfl⟩
     have ck:wr.cell? ⟨g6+1,j,none⟩=some (.string ⟨T.toArray⟩):=by
      rw [← hT.out];have hjj:j=0∨j=1∨j=2∨j=3∨j=4∨j=5∨j=6∨j=7:=by omega
      rcases hjj with rfl | rfl | rfl | rfl | rfl | rfl | rfl | rfl <;> exact zAA hsA.out _ _ rfl
     have hTl:T.length≤20:=by
      rw [← hT.out];have hjj:j=0∨j=1∨j=2∨j=3∨j=4∨j=5∨j=6∨j=7:=by omega
      rcases hjj with rfl | rfl | rfl | rfl | rfl | rfl | rfl | rfl <;> decide
     have hsz:(⟨T.toArray⟩:ByteArray).size=T.length:=by show T.toArray.size=_;simp
     have hax':=hax.out
     rw [show 8-j=(8-(j+1))+1 by omega,axisF,hT.out] at hax'
     cases hpr:pre T (s.data.toList.drop p) with
     | true =>
      rw [if_pos hpr] at hax';have hpT:p+T.length≤s.size:=by
       have:=zAU hpr
       rw [List.length_drop,HL.out] at this;omega
      have p2:(p:Int)+T.length≤s.size:=by omega
      have HPR:=Lib.hid hpr
      obtain ⟨Z,hZ⟩:∃ Z,Hid (qtested ((j:Int)+1) (s.data.toList.drop (p+T.length))=Z):=⟨_,rfl⟩
      have HV:Hid (V=Z.past T.length):=by
       show _=_
       rw [HVQ.out,← hax',if_neg (by omega),hT.out,← hZ.out]
       rfl
      clear hpr hax hax'
      go_wp2_with fail;refine (zAn s p T wr hp hs (by omega) true HPR.out).mono ?_
      rintro e v5 ⟨rfl,hb5⟩;have H65:=Lib.hid (zAB hb5 h6.out)
      have H75:=Lib.hid (zAB hb5 h7.out)
      have HB5:=Lib.hid (hbl.out.trans (hb5.mono hbl.out.size))
      have HS5:=Lib.hid (zAB hb5 hs6.out)
      have HA5:=zAB hb5 hsA.out
      have ck5:v5.cell? ⟨g6+1,j,none⟩=some (.string ⟨T.toArray⟩):=by
       rw [← hT.out];have hjj:j=0∨j=1∨j=2∨j=3∨j=4∨j=5∨j=6∨j=7:=by omega
       rcases hjj with rfl | rfl | rfl | rfl | rfl | rfl | rfl | rfl <;> exact zAA HA5 _ _ rfl
      clear hb5 ck;have fr:=zAV HS5.out 0
      have fc:v5.cell? ⟨g6,0,none⟩=some (.int .i64 1):=zAA HS5.out 0 _ rfl
      have hz6:=HZ.out
      go_upto_region 12 with (fail)
      clear fr fc;have hc5:(v5.setCell ⟨g6,0,none⟩ (.int .i64 ((j:Int)+1))).heap[g6]? = some (.cells (stC ((j:Int)+1) 0 [] none 0 0) 45 (0,0)):=Lib.heap_setCell_same (i:=0) HS5.out _
      have hc6:=(Below.heap_setCell v5 ⟨g6,0,none⟩ (.int .i64 ((j:Int)+1)) _ (show w.heap.size≠g6 from by omega)).trans H65.out
      have hc7:=(Below.heap_setCell v5 ⟨g6,0,none⟩ (.int .i64 ((j:Int)+1)) _ (show w.heap.size+1≠g6 from by omega)).trans H75.out
      have hcB:Below w.heap.size w (v5.setCell ⟨g6,0,none⟩ (.int .i64 ((j:Int)+1))):=HB5.out.setCell (show w.heap.size≤g6 from by omega) _
      have hck:(v5.setCell ⟨g6,0,none⟩ (.int .i64 ((j:Int)+1))).cell? ⟨g6+1,j,none⟩=some (.string ⟨T.toArray⟩):=by
       have h:=(Below.heap_setCell v5 ⟨g6,0,none⟩ (.int .i64 ((j:Int)+1)) _ (show g6+1≠g6 from by omega)).trans HA5
       rw [← hT.out];have hjj:j=0∨j=1∨j=2∨j=3∨j=4∨j=5∨j=6∨j=7:=by omega
       rcases hjj with rfl | rfl | rfl | rfl | rfl | rfl | rfl | rfl <;> exact zAA h _ _ rfl
      obtain ⟨v6,hv6⟩:∃ v6,Hid (v5.setCell ⟨g6,0,none⟩ (.int .i64 ((j:Int)+1))=v6):=⟨_,rfl⟩
      rw [hv6.out] at hc5 hc6 hc7 hcB hck ⊢;have HC6:=Lib.hid hc6
      have HC7:=Lib.hid hc7
      have HCB:=Lib.hid hcB
      have d0:v6.cell? ⟨g6,0,none⟩=some (.int .i64 ((j:Int)+1)):=zAA hc5 0 _ rfl
      have d1:v6.cell? ⟨g6,1,none⟩=some (.int .i64 0):=zAA hc5 1 _ rfl
      have d2:v6.cell? ⟨g6,2,none⟩=some (.string ⟨#[]⟩):=zAA hc5 2 _ rfl
      have d3:v6.cell? ⟨g6,3,none⟩=some (.slice none 0 0):=zAA hc5 3 _ rfl
      clear hc5 hc6 hc7 hcB HA5 ck5
      go_wp2_with fail;clear d0 d1 d2 d3 hck;refine (zH6 s (p+T.length) _ v6 ((j:Int)+1) hpT hs Z hZ (by omega)).mono ?_
      rintro e v8 ⟨a8,t8,n8,A8,k8,c8,q8,b8,r8,rfl,hrel,hb8⟩;have HRL:=Lib.hid hrel
      have H6:=Lib.hid (zAB hb8 HC6.out)
      have H7:=Lib.hid (zAB hb8 HC7.out)
      have HB:=Lib.hid (HCB.out.trans (hb8.mono HCB.out.size))
      clear hb8 hrel;have G7:=(setRow_other v8 w.heap.size (w.heap.size+1) (stC a8 t8 n8 A8 k8 c8) (by omega)).trans H7.out
      go_wp2_with (first | refine wpList_store_row rfl 45 (.tmp 4) (.tmp 52) rfl w.heap.size (stC a8 t8 n8 A8 k8 c8) rfl rfl 45 zeroS H6.out (by kernel_rfl) rfl (zBK _ _ _ _ _ _) ?_ | refine wpList_store_row rfl 129 (.tmp 5) (.tmp 53) rfl (w.heap.size+1) (stQ q8 none 0 0 b8 r8) rfl rfl 129 zeroQ G7 (by kernel_rfl) rfl (zBL _ _ _ _ _ _) ?_)
      try simp only [Exit.inBlock,Exit.then]
      have I6:=(setRow_other (World.setRow v8 w.heap.size (stC a8 t8 n8 A8 k8 c8)) (w.heap.size+1) w.heap.size (stQ q8 none 0 0 b8 r8) (by omega)).trans (setRow_heap v8 w.heap.size _ (stC a8 t8 n8 A8 k8 c8) _ _ H6.out)
      have I7:=setRow_heap (World.setRow v8 w.heap.size (stC a8 t8 n8 A8 k8 c8)) (w.heap.size+1) _ (stQ q8 none 0 0 b8 r8) _ _ G7
      have IB:=zAE (g:=w.heap.size+1) (zAE (g:=w.heap.size) HB.out (by omega) (stC a8 t8 n8 A8 k8 c8)) (by omega) (stQ q8 none 0 0 b8 r8)
      refine bodyPost_ret (zAp Tryz.results67 _ _ w.heap.size (w.heap.size+1) 45 129 (stC a8 t8 n8 A8 k8 c8) (stQ q8 none 0 0 b8 r8) (0,0) (0,0) _ _ rfl rfl I6 I7 Tryz.underlying45 rfl (by kernel_rfl) Tryz.underlying129 rfl (by kernel_rfl)) rfl ?_
      unfold SPost;rw [HV.out];cases Z with
      | ok x m =>
       obtain ⟨h1,h2,h3,h4,h5,h6,h7,h8⟩:=HRL.out
       subst h1;subst h2;subst h3;subst h4;subst h7;subst h8;refine ⟨A8,c8,by show _=Ending.returned _;rw [h6,show ((p+(T.length+m):Nat):Int)=(((p+T.length)+m:Nat):Int) by omega] <;> rw [Nat.add_zero],zAC h5 fun b hb=>?_,IB⟩
       have n6:=zAT h5 H6.out (fun cur h=>by injection h with _ h _;exact absurd h (by decide))
       have n7:=zAT h5 H7.out (fun cur h=>by injection h with _ h _;exact absurd h (by decide))
       rw [setRow_other _ _ _ _ (fun e=>n7 (by rw [← e];exact hb)),setRow_other _ _ _ _ (fun e=>n6 (by rw [← e];exact hb))]
      | bad j er =>
       obtain ⟨h3,h4,h5⟩:=HRL.out
       exact ⟨a8,t8,n8,A8,k8,c8,by show _=Ending.returned _;rw [h3,h4,h5,show ((p+(T.length+j):Nat):Int)=(((p+T.length)+j:Nat):Int) by omega] <;> rw [Nat.add_zero],IB⟩
     | false =>
      rw [if_neg (by rw [hpr];decide)] at hax'
      have HAX:Hid (axisF (8-(j+1)) (j+1+1) (s.data.toList.drop p)=x):=hax'
      have HPR:=Lib.hid hpr
      clear hpr hax hax'
      go_wp2_with fail;refine (zAn s p T wr hp hs (by omega) false HPR.out).mono ?_
      rintro e v5 ⟨rfl,hb5⟩;have H65:=Lib.hid (zAB hb5 h6.out)
      have H75:=Lib.hid (zAB hb5 h7.out)
      have HB5:=Lib.hid (hbl.out.trans (hb5.mono hbl.out.size))
      have HS5:=Lib.hid (zAB hb5 hs6.out)
      have HA5:=Lib.hid (zAB hb5 hsA.out)
      clear hb5 ck
      go_wp2_with fail
      go_roundw
      case rel=>exact ⟨j+1,rfl,by omega,by go_num,HAX.out,HS5.out,HA5.out,H65.out,H75.out,HB5.out⟩
      case measure=>simp [intOf];omega
    ·have j1:¬ (j:Int)<8:=by omega
     have hx0:x=0:=by rw [← hax.out,show 8-j=0 by omega];rfl
     obtain ⟨Z,hZ⟩:∃ Z,Hid (qtested 1 (s.data.toList.drop p)=Z):=⟨_,rfl⟩
     have HV:Hid (V=Z.past 0):=by
      show _=_
      rw [HVQ.out,hx0,if_pos rfl,← hZ.out]
      rfl
     have d0:wr.cell? ⟨g6,0,none⟩=some (.int .i64 1):=zAA hs6.out 0 _ rfl
     have d1:wr.cell? ⟨g6,1,none⟩=some (.int .i64 0):=zAA hs6.out 1 _ rfl
     have d2:wr.cell? ⟨g6,2,none⟩=some (.string ⟨#[]⟩):=zAA hs6.out 2 _ rfl
     have d3:wr.cell? ⟨g6,3,none⟩=some (.slice none 0 0):=zAA hs6.out 3 _ rfl
     clear hax hx0
     go_wp2_with fail;clear d0 d1 d2 d3;refine (zH6 s p _ wr 1 hp hs Z hZ rfl).mono ?_
     rintro e v8 ⟨a8,t8,n8,A8,k8,c8,q8,b8,r8,rfl,hrel,hb8⟩;have HRL:=Lib.hid hrel
     have H6:=Lib.hid (zAB hb8 h6.out)
     have H7:=Lib.hid (zAB hb8 h7.out)
     have HB:=Lib.hid (hbl.out.trans (hb8.mono hbl.out.size))
     clear hb8 hrel;have G7:=(setRow_other v8 w.heap.size (w.heap.size+1) (stC a8 t8 n8 A8 k8 c8) (by omega)).trans H7.out
     go_wp2_with (first | refine wpList_store_row rfl 45 (.tmp 4) (.tmp 58) rfl w.heap.size (stC a8 t8 n8 A8 k8 c8) rfl rfl 45 zeroS H6.out (by kernel_rfl) rfl (zBK _ _ _ _ _ _) ?_ | refine wpList_store_row rfl 129 (.tmp 5) (.tmp 59) rfl (w.heap.size+1) (stQ q8 none 0 0 b8 r8) rfl rfl 129 zeroQ G7 (by kernel_rfl) rfl (zBL _ _ _ _ _ _) ?_)
     try simp only [Exit.inBlock,Exit.then]
     have I6:=(setRow_other (World.setRow v8 w.heap.size (stC a8 t8 n8 A8 k8 c8)) (w.heap.size+1) w.heap.size (stQ q8 none 0 0 b8 r8) (by omega)).trans (setRow_heap v8 w.heap.size _ (stC a8 t8 n8 A8 k8 c8) _ _ H6.out)
     have I7:=setRow_heap (World.setRow v8 w.heap.size (stC a8 t8 n8 A8 k8 c8)) (w.heap.size+1) _ (stQ q8 none 0 0 b8 r8) _ _ G7
     have IB:=zAE (g:=w.heap.size+1) (zAE (g:=w.heap.size) HB.out (by omega) (stC a8 t8 n8 A8 k8 c8)) (by omega) (stQ q8 none 0 0 b8 r8)
     refine bodyPost_ret (zAp Tryz.results67 _ _ w.heap.size (w.heap.size+1) 45 129 (stC a8 t8 n8 A8 k8 c8) (stQ q8 none 0 0 b8 r8) (0,0) (0,0) _ _ rfl rfl I6 I7 Tryz.underlying45 rfl (by kernel_rfl) Tryz.underlying129 rfl (by kernel_rfl)) rfl ?_
     unfold SPost;rw [HV.out];cases Z with
     | ok x m =>
      obtain ⟨h1,h2,h3,h4,h5,h6,h7,h8⟩:=HRL.out
      subst h1;subst h2;subst h3;subst h4;subst h7;subst h8;refine ⟨A8,c8,by show _=Ending.returned _;rw [h6,show ((p+(0+m):Nat):Int)=(((p+0)+m:Nat):Int) by omega] <;> rw [Nat.add_zero],zAC h5 fun b hb=>?_,IB⟩
      have n6:=zAT h5 H6.out (fun cur h=>by injection h with _ h _;exact absurd h (by decide))
      have n7:=zAT h5 H7.out (fun cur h=>by injection h with _ h _;exact absurd h (by decide))
      rw [setRow_other _ _ _ _ (fun e=>n7 (by rw [← e];exact hb)),setRow_other _ _ _ _ (fun e=>n6 (by rw [← e];exact hb))]
     | bad j er =>
      obtain ⟨h3,h4,h5⟩:=HRL.out
      exact ⟨a8,t8,n8,A8,k8,c8,by show _=Ending.returned _;rw [h3,h4,h5,show ((p+(0+j):Nat):Int)=(((p+0)+j:Nat):Int) by omega] <;> rw [Nat.add_zero],IB⟩
end
section
open Go.RowKit Go.Shelf
def finT:Told (List StepD)→List StepD × Nat × Int
 | .ok ls _=>(ls,0,0)
 | .bad k e=>([],k,e)
theorem zJ9 {l:List UInt8} (h:¬ 200<l.length):queryL l=finT (qall l []):=by
 unfold queryL;rw [if_neg h];cases qall l [] <;> rfl
def P7Post (w:World) (R:List StepD × Nat × Int) (e:Ending) (w':World):Prop :=
 ∃ A c,e=.returned (.tuple #[.slice A R.1.length c,.int .i64 (R.2.1:Nat),.int .i64 R.2.2])∧StepsAt w' w'.heap.size A R.1∧Below w.heap.size w w'
theorem zLi (s:ByteArray) (p:Nat) (i:Int) (w:World) (hp:p≤s.size) (hs:s.size≤1000000000) (V:Told StepD) (hV:Hid (qstep (s.data.toList.drop p)=V)) (hi:i=(p:Int)) :
  Calls Tryz.prog 67 #[.string s,.int .i64 i] w fun e w'=>∃ ax te nm A k c a b r,e=.returned (.tuple #[.agg (stC ax te nm A k c),.agg (stQ a none 0 0 b r)])∧SRel p V ax te nm A k c a b r w'∧Below w.heap.size w w':=by
 subst hi;exact (zM4 s p w hp hs V hV).mono fun e w' h=>SPost.any h
theorem SPreds.slP {w:World} {S:List QSlot} (h:SPreds w 0 S):SlP w w.heap.size S:=fun x hx=>⟨(h x hx).at,by
 obtain ⟨_,_,hv,hnc,_⟩:=zAR (h x hx)
 injection hv with _ _ hv
 omega⟩
theorem zMV (s:ByteArray) (w:World) (hs:s.size≤1000000000) (R:List StepD × Nat × Int) (hR:Hid (queryL s.data.toList=R)) :
  Calls Tryz.prog 40 #[.string s] w (P7Post w R):=by
 have HL:=Lib.hid (zAH s)
 have l0:(0:Int)≤(s.size:Int):=by omega
 by_cases h200:(200:Int)<s.size
 ·have HRV:Hid (R=([],0,71)):=by show _=_;rw [← hR.out];unfold queryL;rw [if_pos (by rw [HL.out];omega)]
  clear hR
  go_enter Tryz.func40,Tryz.ntmps40
  go_wp2_with fail
  go_ret3;rw [HRV.out];exact ⟨none,0,rfl,fun h=>by simp at h,Below.refl _ _⟩
 obtain ⟨V,hV⟩:∃ V,Hid (qall s.data.toList []=V):=⟨_,rfl⟩
 have HRV:Hid (R=finT V):=by show _=_;rw [← hR.out,zJ9 (by rw [HL.out];omega),hV.out]
 have HS200:Hid (s.size≤200):=by show _≤_;omega
 clear hR
 go_enter Tryz.func40,Tryz.ntmps40
 go_wp2_with fail;clear h200
 go_loopw [5,6] (fun o i wr=>∃ (p:Nat) (S:List QSlot) (A:Option Addr) (c:Nat),p≤s.size∧o=.slice A S.length c∧i=.int .i64 (p:Int)∧S.length≤20∧Hid (StepsOwn wr 0 A c S)∧Hid (SPreds wr 0 S)∧Hid (∀ b,(Value.slice A S.length c).ownBlock=some b→w.heap.size≤b)∧Hid (Below w.heap.size w wr)∧Hid ((S≠[]∧p=s.size∧V=.ok (S.map (·.1)) p)∨((p<s.size∨S=[])∧(qall (s.data.toList.drop p) (S.map (·.1))).past p=V))) (fun _ i _=>s.size-(intOf i).toNat)
 case atStart=>exact ⟨0,[],none,0,Nat.zero_le _,rfl,rfl,by simp,⟨by simp,.inl ⟨rfl,rfl⟩⟩,(fun _ h=>by cases h),(fun b hb=>by simp [Value.ownBlock] at hb),Below.refl _ _,.inr ⟨.inr rfl,by rw [List.drop_zero,Told.past_zero];exact hV.out⟩⟩
 case round =>
  obtain ⟨p,S,A,c,hps,rfl,rfl,hS,ho,hsp,hfr,hbl,hin⟩:=hrel
  have p0:(0:Int)≤(p:Int):=by omega
  have p1:(p:Int)≤s.size:=by omega
  have s0:(0:Int)≤(S.length:Int):=by omega
  have s1:(S.length:Int)≤20:=by omega
  rcases hin.out with ⟨hne,hpe,hVe⟩ | ⟨hor,hq⟩
  ·have HV:=Lib.hid hVe
   have hSl:¬ S.length=0:=fun h=>hne (List.length_eq_zero_iff.1 h)
   have hSb:((S.length:Int) == 0)=false:=by simpa using hSl
   have hlt:¬ (p:Int)<s.size:=by omega
   clear hne hpe hVe hSl
   go_wp2_with fail
   go_ret3;rw [HRV.out,HV.out];exact ⟨A,c,by simp [finT],by
    have h:=StepsOwn.atW ho.out (SPreds.slP hsp.out) (Nat.le_refl _)
    exact h,hbl.out⟩
  ·have HQ:=Lib.hid hq
   cases h47:pre [47] (s.data.toList.drop p) with
   | false =>
    have H47:=Lib.hid h47
    have HV:Hid (V=.bad p 70):=by show _=_;rw [← HQ.out,zBF (zJ6 h47 _)];rfl
    clear h47 hq;by_cases hlt:(p:Int)<s.size
    ·clear hor
     go_wp2_with fail;refine (zAn s p [47] wr hps hs (by decide) false H47.out).mono ?_
     rintro e v1 ⟨rfl,hb1⟩
     go_wp2_with fail
     go_ret3;rw [HRV.out,HV.out];exact ⟨none,0,rfl,fun h=>by simp [finT] at h,hbl.out.trans (hb1.mono hbl.out.size)⟩
    ·have hS0:S=[]:=by
      rcases hor with h | h
      ·omega
      ·exact h
     have hSb:((S.length:Int) == 0)=true:=by rw [hS0];rfl
     clear hor hS0
     go_wp2_with fail;refine (zAn s p [47] wr hps hs (by decide) false H47.out).mono ?_
     rintro e v1 ⟨rfl,hb1⟩
     go_wp2_with fail
     go_ret3;rw [HRV.out,HV.out];exact ⟨none,0,rfl,fun h=>by simp [finT] at h,hbl.out.trans (hb1.mono hbl.out.size)⟩
   | true =>
    have H47:=Lib.hid h47
    have hpp:p+1≤s.size:=by
     have:=zAU h47
     rw [List.length_drop,HL.out] at this;simp at this;omega
    have hlt:(p:Int)<s.size:=by omega
    have p2:(p:Int)+1≤s.size:=by omega
    clear hq hor hin
    go_wp2_with fail;refine (zAn s p [47] wr hps hs (by decide) true H47.out).mono ?_
    rintro e v0 ⟨rfl,hb0⟩;have HO0:Hid (StepsOwn v0 0 A c S):=zAC ho.out fun b hb=>hb0.block b (zAJ ho.out hb)
    have HP0:Hid (SPreds v0 0 S):=fun y hy=>zAC (hsp.out y hy) fun b hb=>hb0.block b (zAJ (hsp.out y hy) hb)
    have HB0:=Lib.hid (hbl.out.trans (hb0.mono hbl.out.size))
    clear hb0
    go_wp2_with fail;cases h2:pre [47] (s.data.toList.drop (p+1)) with
    | false =>
     have H2:=Lib.hid h2
     refine (zDQ s (p+1) _ [47] v0 hpp hs (by decide) false H2.out (by omega)).mono ?_
     rintro e v1 ⟨rfl,hb1⟩;obtain ⟨S1,hS1⟩:∃ S1,Hid (S1=S):=⟨_,rfl⟩
     obtain ⟨A1,hA1⟩:∃ A1,Hid (A1=A):=⟨_,rfl⟩
     obtain ⟨c1,hc1⟩:∃ c1,Hid (c1=c):=⟨_,rfl⟩
     have HO1:Hid (StepsOwn v1 0 A1 c1 S1):=by show StepsOwn _ _ _ _ _;rw [hS1.out,hA1.out,hc1.out];exact zAC HO0.out fun b hb=>hb1.block b (zAJ HO0.out hb)
     have HP1:Hid (SPreds v1 0 S1):=by show SPreds _ _ _;rw [hS1.out];exact fun y hy=>zAC (HP0.out y hy) fun b hb=>hb1.block b (zAJ (HP0.out y hy) hb)
     have HF1:Hid (∀ b,(Value.slice A1 S1.length c1).ownBlock=some b→w.heap.size≤b):=by show ∀ b,_;rw [hS1.out,hA1.out,hc1.out];exact hfr.out
     have HB1:=Lib.hid (HB0.out.trans (hb1.mono HB0.out.size))
     obtain ⟨P1,hP1e⟩:∃ P1,Hid (P1=p+1):=⟨_,rfl⟩
     have hP1:P1≤s.size:=by have:=hP1e.out;omega
     have HOn:Hid (qone (s.data.toList.drop p) (S.map (·.1))=if 20≤(S1.map (·.1)).length then .bad 0 70 else oneTold (P1-p) (S1.map (·.1)) (qstep (s.data.toList.drop P1))):=by
      show _=_
      rw [zGj H47.out (by rw [List.drop_drop];exact h2),List.drop_drop,hS1.out,hP1e.out,show p+1-p=1 by omega]
     have hSS:S1.length≤21:=by rw [hS1.out];omega
     rw [← hS1.out,← hA1.out,← hc1.out];clear h2 hb1;have S10:(0:Int)≤(S1.length:Int):=by omega
     have S11:(S1.length:Int)≤21:=by omega
     by_cases h20:(20:Int)≤(S1.length:Int)
     ·have HV:Hid (V=.bad p 70):=by
       show _=_
       rw [← HQ.out,zBF (k:=0) (e:=70) (by rw [HOn.out,if_pos (by rw [List.length_map];omega)])]
       rfl
      go_wp2_with fail
      go_ret3;rw [HRV.out,HV.out];exact ⟨none,0,rfl,fun h=>by simp [finT] at h,HB1.out⟩
     ·have HO2:Hid (qone (s.data.toList.drop p) (S.map (·.1))=oneTold (P1-p) (S1.map (·.1)) (qstep (s.data.toList.drop P1))):=by
       show _=_
       rw [HOn.out,if_neg (by rw [List.length_map];omega)]
      obtain ⟨Z,hZ⟩:∃ Z,Hid (qstep (s.data.toList.drop P1)=Z):=⟨_,rfl⟩
      have hS20:S1.length<20:=by omega
      go_wp2_with fail;refine (zLi s P1 _ v1 hP1 hs Z hZ (by have:=hP1e.out;omega)).mono ?_
      rintro e v2 ⟨ax,te,nm,A2,k2,c2,a2,b2,r2,rfl,hrel,hb2⟩;have HRL:=Lib.hid hrel
      have HO2':Hid (StepsOwn v2 0 A1 c1 S1):=zAC HO1.out fun b hb=>hb2.block b (zAJ HO1.out hb)
      have HP2:Hid (SPreds v2 0 S1):=fun y hy=>zAC (HP1.out y hy) fun b hb=>hb2.block b (zAJ (HP1.out y hy) hb)
      have HB2:=Lib.hid (HB1.out.trans (hb2.mono HB1.out.size))
      have hz2:v1.heap.size≤v2.heap.size:=hb2.size
      clear hb2 hrel;unfold stC stQ
      go_upto_region 15 with (fail)
      obtain ⟨v3,hv3⟩:∃ v3,Hid ((v2.alloc (.cells (stC ax te nm A2 k2 c2) 45)).alloc (.cells (stQ a2 none 0 0 b2 r2) 129)=v3):=⟨_,rfl⟩
      have hv3':=hv3.out
      unfold stC stQ at hv3';rw [hv3'];clear hv3';have hb3a:Below v2.heap.size v2 (v2.alloc (.cells (stC ax te nm A2 k2 c2) 45)):=(Below.refl _ v2).alloc (Nat.le_refl _) _
      have hb3:Below v2.heap.size v2 v3:=by rw [← hv3.out];exact hb3a.alloc hb3a.size _
      have H8:Hid (v3.heap[v2.heap.size]? = some (.cells (stC ax te nm A2 k2 c2) 45 (0,0))):=by
       show _=_
       rw [← hv3.out];exact (Below.heap_alloc _ _ _ (by simp)).trans (heap_alloc_new v2 _)
      have H9:Hid (v3.heap[v2.heap.size+1]? = some (.cells (stQ a2 none 0 0 b2 r2) 129 (0,0))):=by
       show _=_
       rw [← hv3.out];have h:=heap_alloc_new (v2.alloc (.cells (stC ax te nm A2 k2 c2) 45)) (.cells (stQ a2 none 0 0 b2 r2) 129)
       rw [show (v2.alloc (.cells (stC ax te nm A2 k2 c2) 45)).heap.size=v2.heap.size+1 by simp] at h
       exact h
      have HO3:Hid (StepsOwn v3 0 A1 c1 S1):=zAC HO2'.out fun b hb=>hb3.block b (zAJ HO2'.out hb)
      have HP3:Hid (SPreds v3 0 S1):=fun y hy=>zAC (HP2.out y hy) fun b hb=>hb3.block b (zAJ (HP2.out y hy) hb)
      have HB3:=Lib.hid (HB2.out.trans (hb3.mono HB2.out.size))
      have HKP:Hid (∀ {AA cc ll},PredsOwn v2 0 AA cc ll→PredsOwn v3 0 AA cc ll):=fun h=>zAC h fun b hb=>hb3.block b (zAJ h hb)
      clear hb3 hb3a hv3;have e3:v3.cell? ⟨v2.heap.size+1,3,none⟩=some (.int .i64 r2):=zAA H9.out 3 _ rfl
      have hwi:=zBT (s.data.toList.drop P1)
      rw [hZ.out,List.length_drop,HL.out] at hwi;have HWI:=Lib.hid hwi
      clear hwi;cases Z with
      | bad j er =>
       obtain ⟨h1,h2,h3⟩:=HRL.out
       have hne:(r2 != 0)=true:=by rw [h3];simpa using HWI.out.2
       have HV:Hid (V=.bad (p+(P1-p+j)) er):=by
        show _=_
        rw [← HQ.out,zBF (k:=P1-p+j) (e:=er) (by rw [HO2.out,hZ.out];rfl)]
        rfl
       have HH:=Lib.hid (And.intro h2 h3)
       have e2:v3.cell? ⟨v2.heap.size+1,2,none⟩=some (.int .i64 b2):=zAA H9.out 2 _ rfl
       clear h1 h2 h3
       go_wp2_with fail;refine wp_region_held_drew (S:=fun V=>V.cell? ⟨v2.heap.size+1,2,none⟩=some (.int .i64 b2)∧V.cell? ⟨v2.heap.size+1,3,none⟩=some (.int .i64 r2)) (by kernel_rfl) ⟨e2,e3⟩ (fun hHeld=>?_)
       clear e2 e3;refine tkv 0 (h:=tkv 1 (h:=tkv 2 (h:=tkv 3 (h:=tkv 4 (h:=tkv 5 (h:=?_))))))
       refine tkv 6 (h:=?_)
       refine wpAnyH_done (by kernel_rfl) ?_ _
       clear hHeld
       go_wp2_with fail
       go_ret3;rw [HRV.out,HV.out];exact ⟨none,0,by
        show _=Ending.returned _
        rw [HH.out.1,HH.out.2];show _=Ending.returned (.tuple #[.slice none 0 0,.int .i64 ((p+(P1-p+j):Nat):Int),.int .i64 er])
        rw [show p+(P1-p+j)=P1+j by have:=hP1e.out;omega]
        rfl,fun h=>by simp [finT] at h,HB3.out.trans ⟨rfl,rfl,rfl,Nat.le_refl _,fun _ _=>rfl⟩⟩
      | ok x m =>
       obtain ⟨h1,h2,h3,h4,hPO,h6,h7,h8⟩:=HRL.out
       subst h1;subst h2;subst h3;subst h4;subst h7;subst h8;have HA2:=Lib.hid h6
       obtain ⟨hm1,hm2⟩:1≤m∧m≤s.size-P1:=HWI.out
       have hm3:P1+m≤s.size:=by omega
       have a1:a2≤s.size:=by omega
       have a0:(0:Int)≤a2:=by omega
       have HPO:=Lib.hid (HKP.out hPO)
       obtain ⟨y,hy⟩:∃ y:QSlot,Hid (y=(x,A2,c2)):=⟨_,rfl⟩
       have hba:Below v3.heap.size v3 (v3.alloc (.cells (slotC y) 45)):=(Below.refl _ v3).alloc (Nat.le_refl _) _
       have hoa:StepsOwn (v3.alloc (.cells (slotC y) 45)) 0 A1 c1 S1:=zAC HO3.out fun b hb=>hba.block b (zAJ HO3.out hb)
       obtain ⟨pa,pn,pc,v4,hr4,hpn,ho4,hg4,hf4⟩:=zBV hoa [y] (some ⟨v3.heap.size,0,none⟩) 1 (zKK y (heap_alloc_new v3 _)) (by omega) (by simp)
       subst hpn;have n9:=zAT HO3.out H9.out (fun cur h=>by injection h with _ h _;exact absurd h (by decide))
       have hkeep:∀ {AA cc ll},PredsOwn v3 0 AA cc ll→PredsOwn v4 0 AA cc ll:=fun h=>by
        have h':=zAC h fun b hb=>hba.block b (zAJ h hb)
        exact zAC h' fun b hb=>by
         refine hg4.block b (zAJ h' hb) (fun e=>?_)
         obtain ⟨cur,hcur⟩:=zCO hoa e.symm
         exact zAT h' hcur (fun cur' h=>by injection h with _ h _;exact absurd h (by decide)) hb
       have HP4:Hid (SPreds v4 0 (S1++[y])):=fun z hz=>by
        rcases List.mem_append.1 hz with hz | hz
        ·exact hkeep (HP3.out z hz)
        ·rw [List.mem_singleton.1 hz,hy.out];exact hkeep HPO.out
       have H94:v4.heap[v2.heap.size+1]? = some (.cells (stQ a2 none 0 0 0 0) 129 (0,0)):=(hg4.block _ (Nat.lt_of_lt_of_le (Array.getElem?_eq_some_iff.1 H9.out).1 hba.size) (Ne.symm n9)).trans (zAB hba H9.out)
       have HB4:Hid (Below w.heap.size w v4):=(HB3.out.trans (hba.mono HB3.out.size)).grown hg4 (Nat.le_trans HB3.out.size hba.size) (fun j hj=>HF1.out j hj)
       have HF4:Hid (∀ b,(Value.slice pa (S1++[y]).length pc).ownBlock=some b→w.heap.size≤b):=fun b hb=>by
        rcases hf4 b hb with h | h
        ·exact HF1.out b h
        ·exact Nat.le_trans HB3.out.size (Nat.le_trans hba.size h)
       have HO4:=Lib.hid ho4
       have f0:v4.cell? ⟨v2.heap.size+1,0,none⟩=some (.int .i64 a2):=zAA H94 0 _ rfl
       have d0:v3.cell? ⟨v2.heap.size,0,none⟩=some (.int .i64 x.axis):=zAA H8.out 0 _ rfl
       have d1:v3.cell? ⟨v2.heap.size,1,none⟩=some (.int .i64 x.test):=zAA H8.out 1 _ rfl
       have d2:v3.cell? ⟨v2.heap.size,2,none⟩=some (.string ⟨x.name.toArray⟩):=zAA H8.out 2 _ rfl
       have d3:v3.cell? ⟨v2.heap.size,3,none⟩=some (.slice A2 x.preds.length c2):=zAA H8.out 3 _ rfl
       have HQ4:Hid ((S1++[y]≠[]∧P1+m=s.size∧V=.ok ((S1++[y]).map (·.1)) (P1+m))∨((P1+m<s.size∨S1++[y]=[])∧(qall (s.data.toList.drop (P1+m)) ((S1++[y]).map (·.1))).past (P1+m)=V)):=by
        have hmap:(S1++[y]).map (·.1)=S1.map (·.1)++[x]:=by rw [List.map_append,hy.out];rfl
        have ho:qone (s.data.toList.drop p) (S.map (·.1))=.ok (S1.map (·.1)++[x]) (P1-p+m):=by rw [HO2.out,hZ.out];rfl
        have hpP:=hP1e.out
        by_cases hend:P1+m=s.size
        ·refine .inl ⟨by simp,hend,?_⟩
         rw [← HQ.out,zDl ho (by rw [List.drop_drop];exact List.drop_eq_nil_of_le (by rw [HL.out];omega)),hmap]
         show Told.ok _ _=_
         rw [show p+(P1-p+m)=P1+m by omega]
        ·refine .inr ⟨.inl (by omega),?_⟩
         rw [← HQ.out,zC1 ho (by rw [List.drop_drop];intro h;have:=congrArg List.length h;rw [List.length_drop,HL.out] at this;simp at this;omega),List.drop_drop,Told.past_past,hmap,show p+(P1-p+m)=P1+m by omega]
       unfold slotC at hr4;rw [hy.out] at hr4;have hlen:(S1++[y]).length=S1.length+1:=by simp
       have HLEN:=Lib.hid hlen
       rw [hy.out] at hlen;clear h6 hPO hba hoa hg4 hf4 ho4 n9 H94
       go_wp2_with (at_builtin;refine zAK _ rfl _ _ 23 rfl (.slice A1 S1.length c1) (.slice (some ⟨v3.heap.size,0,none⟩) 1 1) (by simp [Act.eval]) (by simp [Act.eval]) hr4 ?_)
       try go_wp2_with fail
       go_roundw
       case rel =>
        refine ⟨P1+m,S1++[y],pa,pc,hm3,by rw [HLEN.out],by rw [HA2.out],by rw [HLEN.out];omega,HO4.out,HP4.out,HF4.out,HB4.out,HQ4.out⟩
       case measure=>rw [HA2.out];simp [intOf];have:=hP1e.out;omega
    | true =>
     have H2:=Lib.hid h2
     have hpp2:p+2≤s.size:=by
      have:=zAU h2
      rw [List.length_drop,HL.out] at this;simp at this;omega
     have p3:(p:Int)+2≤s.size:=by omega
     refine (zDQ s (p+1) _ [47] v0 hpp hs (by decide) true H2.out (by omega)).mono ?_
     rintro e u1 ⟨rfl,hb1⟩;have HOa:Hid (StepsOwn u1 0 A c S):=zAC HO0.out fun b hb=>hb1.block b (zAJ HO0.out hb)
     have HPa:Hid (SPreds u1 0 S):=fun y hy=>zAC (HP0.out y hy) fun b hb=>hb1.block b (zAJ (HP0.out y hy) hb)
     have HBa:=Lib.hid (HB0.out.trans (hb1.mono HB0.out.size))
     obtain ⟨x3,hx3⟩:∃ x3:QSlot,Hid (x3=((⟨3,4,[],[]⟩:StepD),none,0)):=⟨_,rfl⟩
     have hba:Below u1.heap.size u1 (u1.alloc (.cells (slotC x3) 45)):=(Below.refl _ u1).alloc (Nat.le_refl _) _
     have hoa:StepsOwn (u1.alloc (.cells (slotC x3) 45)) 0 A c S:=zAC HOa.out fun b hb=>hba.block b (zAJ HOa.out hb)
     obtain ⟨A1,pn,c1,v1,hr1,hpn,ho1,hg1,hf1⟩:=zBV hoa [x3] (some ⟨u1.heap.size,0,none⟩) 1 (zKK x3 (heap_alloc_new u1 _)) (by omega) (by simp)
     subst hpn;obtain ⟨S1,hS1⟩:∃ S1,Hid (S++[x3]=S1):=⟨_,rfl⟩
     rw [hS1.out] at ho1 hf1 hr1;have HO1:=Lib.hid ho1
     have HP1:Hid (SPreds v1 0 S1):=by
      show SPreds _ _ _
      rw [← hS1.out];intro z hz;rcases List.mem_append.1 hz with hz | hz
      ·have h':=zAC (HPa.out z hz) fun b hb=>hba.block b (zAJ (HPa.out z hz) hb)
       exact zAC h' fun b hb=>by
        refine hg1.block b (zAJ h' hb) (fun e=>?_)
        obtain ⟨cur,hcur⟩:=zCO hoa e.symm
        exact zAT h' hcur (fun cur' h=>by injection h with _ h _;exact absurd h (by decide)) hb
      ·rw [List.mem_singleton.1 hz,hx3.out]
       exact ⟨by simp,.inl ⟨rfl,rfl⟩⟩
     have HF1:Hid (∀ b,(Value.slice A1 S1.length c1).ownBlock=some b→w.heap.size≤b):=fun b hb=>by
      rcases hf1 b hb with h | h
      ·exact hfr.out b h
      ·exact Nat.le_trans HBa.out.size (Nat.le_trans hba.size h)
     have HB1:Hid (Below w.heap.size w v1):=(HBa.out.trans (hba.mono HBa.out.size)).grown hg1 (Nat.le_trans HBa.out.size hba.size) (fun j hj=>hfr.out j hj)
     obtain ⟨P1,hP1e⟩:∃ P1,Hid (P1=p+2):=⟨_,rfl⟩
     have hP1:P1≤s.size:=by have:=hP1e.out;omega
     have hSl:S1.length=S.length+1:=by rw [← hS1.out];simp
     have HOn:Hid (qone (s.data.toList.drop p) (S.map (·.1))=if 20≤(S1.map (·.1)).length then .bad 0 70 else oneTold (P1-p) (S1.map (·.1)) (qstep (s.data.toList.drop P1))):=by
      show _=_
      have hm:S1.map (·.1)=S.map (·.1)++[⟨3,4,[],[]⟩]:=by rw [← hS1.out,List.map_append,hx3.out];rfl
      rw [zGk H47.out (by rw [List.drop_drop];exact h2),List.drop_drop,hm,hP1e.out,show p+2-p=2 by omega,List.length_append,List.length_map]
      by_cases h20:20≤S.length
      ·rw [if_pos h20,if_pos (by simp;omega)]
      ·rw [if_neg h20];rfl
     have hSS:S1.length≤21:=by omega
     unfold slotC at hr1;rw [hx3.out] at hr1;clear h2 hb1 hba hoa ho1 hg1 hf1 hSl
     go_upto_region 12 with (at_builtin;refine zAK _ rfl _ _ 23 rfl (.slice A S.length c) (.slice (some ⟨u1.heap.size,0,none⟩) 1 1) (by simp [Act.eval]) (by simp [Act.eval]) hr1 ?_)
     have S10:(0:Int)≤(S1.length:Int):=by omega
     have S11:(S1.length:Int)≤21:=by omega
     by_cases h20:(20:Int)≤(S1.length:Int)
     ·have HV:Hid (V=.bad p 70):=by
       show _=_
       rw [← HQ.out,zBF (k:=0) (e:=70) (by rw [HOn.out,if_pos (by rw [List.length_map];omega)])]
       rfl
      go_wp2_with fail
      go_ret3;rw [HRV.out,HV.out];exact ⟨none,0,rfl,fun h=>by simp [finT] at h,HB1.out⟩
     ·have HO2:Hid (qone (s.data.toList.drop p) (S.map (·.1))=oneTold (P1-p) (S1.map (·.1)) (qstep (s.data.toList.drop P1))):=by
       show _=_
       rw [HOn.out,if_neg (by rw [List.length_map];omega)]
      obtain ⟨Z,hZ⟩:∃ Z,Hid (qstep (s.data.toList.drop P1)=Z):=⟨_,rfl⟩
      have hS20:S1.length<20:=by omega
      go_wp2_with fail;refine (zLi s P1 _ v1 hP1 hs Z hZ (by have:=hP1e.out;omega)).mono ?_
      rintro e v2 ⟨ax,te,nm,A2,k2,c2,a2,b2,r2,rfl,hrel,hb2⟩;have HRL:=Lib.hid hrel
      have HO2':Hid (StepsOwn v2 0 A1 c1 S1):=zAC HO1.out fun b hb=>hb2.block b (zAJ HO1.out hb)
      have HP2:Hid (SPreds v2 0 S1):=fun y hy=>zAC (HP1.out y hy) fun b hb=>hb2.block b (zAJ (HP1.out y hy) hb)
      have HB2:=Lib.hid (HB1.out.trans (hb2.mono HB1.out.size))
      have hz2:v1.heap.size≤v2.heap.size:=hb2.size
      clear hb2 hrel;unfold stC stQ
      go_upto_region 15 with (fail)
      obtain ⟨v3,hv3⟩:∃ v3,Hid ((v2.alloc (.cells (stC ax te nm A2 k2 c2) 45)).alloc (.cells (stQ a2 none 0 0 b2 r2) 129)=v3):=⟨_,rfl⟩
      have hv3':=hv3.out
      unfold stC stQ at hv3';rw [hv3'];clear hv3';have hb3a:Below v2.heap.size v2 (v2.alloc (.cells (stC ax te nm A2 k2 c2) 45)):=(Below.refl _ v2).alloc (Nat.le_refl _) _
      have hb3:Below v2.heap.size v2 v3:=by rw [← hv3.out];exact hb3a.alloc hb3a.size _
      have H8:Hid (v3.heap[v2.heap.size]? = some (.cells (stC ax te nm A2 k2 c2) 45 (0,0))):=by
       show _=_
       rw [← hv3.out];exact (Below.heap_alloc _ _ _ (by simp)).trans (heap_alloc_new v2 _)
      have H9:Hid (v3.heap[v2.heap.size+1]? = some (.cells (stQ a2 none 0 0 b2 r2) 129 (0,0))):=by
       show _=_
       rw [← hv3.out];have h:=heap_alloc_new (v2.alloc (.cells (stC ax te nm A2 k2 c2) 45)) (.cells (stQ a2 none 0 0 b2 r2) 129)
       rw [show (v2.alloc (.cells (stC ax te nm A2 k2 c2) 45)).heap.size=v2.heap.size+1 by simp] at h
       exact h
      have HO3:Hid (StepsOwn v3 0 A1 c1 S1):=zAC HO2'.out fun b hb=>hb3.block b (zAJ HO2'.out hb)
      have HP3:Hid (SPreds v3 0 S1):=fun y hy=>zAC (HP2.out y hy) fun b hb=>hb3.block b (zAJ (HP2.out y hy) hb)
      have HB3:=Lib.hid (HB2.out.trans (hb3.mono HB2.out.size))
      have HKP:Hid (∀ {AA cc ll},PredsOwn v2 0 AA cc ll→PredsOwn v3 0 AA cc ll):=fun h=>zAC h fun b hb=>hb3.block b (zAJ h hb)
      clear hb3 hb3a hv3;have e3:v3.cell? ⟨v2.heap.size+1,3,none⟩=some (.int .i64 r2):=zAA H9.out 3 _ rfl
      have hwi:=zBT (s.data.toList.drop P1)
      rw [hZ.out,List.length_drop,HL.out] at hwi;have HWI:=Lib.hid hwi
      clear hwi;cases Z with
      | bad j er =>
       obtain ⟨h1,h2,h3⟩:=HRL.out
       have hne:(r2 != 0)=true:=by rw [h3];simpa using HWI.out.2
       have HV:Hid (V=.bad (p+(P1-p+j)) er):=by
        show _=_
        rw [← HQ.out,zBF (k:=P1-p+j) (e:=er) (by rw [HO2.out,hZ.out];rfl)]
        rfl
       have HH:=Lib.hid (And.intro h2 h3)
       have e2:v3.cell? ⟨v2.heap.size+1,2,none⟩=some (.int .i64 b2):=zAA H9.out 2 _ rfl
       clear h1 h2 h3
       go_wp2_with fail;refine wp_region_held_drew (S:=fun V=>V.cell? ⟨v2.heap.size+1,2,none⟩=some (.int .i64 b2)∧V.cell? ⟨v2.heap.size+1,3,none⟩=some (.int .i64 r2)) (by kernel_rfl) ⟨e2,e3⟩ (fun hHeld=>?_)
       clear e2 e3;refine tkv 0 (h:=tkv 1 (h:=tkv 2 (h:=tkv 3 (h:=tkv 4 (h:=tkv 5 (h:=?_))))))
       refine tkv 6 (h:=?_)
       refine wpAnyH_done (by kernel_rfl) ?_ _
       clear hHeld
       go_wp2_with fail
       go_ret3;rw [HRV.out,HV.out];exact ⟨none,0,by
        show _=Ending.returned _
        rw [HH.out.1,HH.out.2];show _=Ending.returned (.tuple #[.slice none 0 0,.int .i64 ((p+(P1-p+j):Nat):Int),.int .i64 er])
        rw [show p+(P1-p+j)=P1+j by have:=hP1e.out;omega]
        rfl,fun h=>by simp [finT] at h,HB3.out.trans ⟨rfl,rfl,rfl,Nat.le_refl _,fun _ _=>rfl⟩⟩
      | ok x m =>
       obtain ⟨h1,h2,h3,h4,hPO,h6,h7,h8⟩:=HRL.out
       subst h1;subst h2;subst h3;subst h4;subst h7;subst h8;have HA2:=Lib.hid h6
       obtain ⟨hm1,hm2⟩:1≤m∧m≤s.size-P1:=HWI.out
       have hm3:P1+m≤s.size:=by omega
       have a1:a2≤s.size:=by omega
       have a0:(0:Int)≤a2:=by omega
       have HPO:=Lib.hid (HKP.out hPO)
       obtain ⟨y,hy⟩:∃ y:QSlot,Hid (y=(x,A2,c2)):=⟨_,rfl⟩
       have hba:Below v3.heap.size v3 (v3.alloc (.cells (slotC y) 45)):=(Below.refl _ v3).alloc (Nat.le_refl _) _
       have hoa:StepsOwn (v3.alloc (.cells (slotC y) 45)) 0 A1 c1 S1:=zAC HO3.out fun b hb=>hba.block b (zAJ HO3.out hb)
       obtain ⟨pa,pn,pc,v4,hr4,hpn,ho4,hg4,hf4⟩:=zBV hoa [y] (some ⟨v3.heap.size,0,none⟩) 1 (zKK y (heap_alloc_new v3 _)) (by omega) (by simp)
       subst hpn;have n9:=zAT HO3.out H9.out (fun cur h=>by injection h with _ h _;exact absurd h (by decide))
       have hkeep:∀ {AA cc ll},PredsOwn v3 0 AA cc ll→PredsOwn v4 0 AA cc ll:=fun h=>by
        have h':=zAC h fun b hb=>hba.block b (zAJ h hb)
        exact zAC h' fun b hb=>by
         refine hg4.block b (zAJ h' hb) (fun e=>?_)
         obtain ⟨cur,hcur⟩:=zCO hoa e.symm
         exact zAT h' hcur (fun cur' h=>by injection h with _ h _;exact absurd h (by decide)) hb
       have HP4:Hid (SPreds v4 0 (S1++[y])):=fun z hz=>by
        rcases List.mem_append.1 hz with hz | hz
        ·exact hkeep (HP3.out z hz)
        ·rw [List.mem_singleton.1 hz,hy.out];exact hkeep HPO.out
       have H94:v4.heap[v2.heap.size+1]? = some (.cells (stQ a2 none 0 0 0 0) 129 (0,0)):=(hg4.block _ (Nat.lt_of_lt_of_le (Array.getElem?_eq_some_iff.1 H9.out).1 hba.size) (Ne.symm n9)).trans (zAB hba H9.out)
       have HB4:Hid (Below w.heap.size w v4):=(HB3.out.trans (hba.mono HB3.out.size)).grown hg4 (Nat.le_trans HB3.out.size hba.size) (fun j hj=>HF1.out j hj)
       have HF4:Hid (∀ b,(Value.slice pa (S1++[y]).length pc).ownBlock=some b→w.heap.size≤b):=fun b hb=>by
        rcases hf4 b hb with h | h
        ·exact HF1.out b h
        ·exact Nat.le_trans HB3.out.size (Nat.le_trans hba.size h)
       have HO4:=Lib.hid ho4
       have f0:v4.cell? ⟨v2.heap.size+1,0,none⟩=some (.int .i64 a2):=zAA H94 0 _ rfl
       have d0:v3.cell? ⟨v2.heap.size,0,none⟩=some (.int .i64 x.axis):=zAA H8.out 0 _ rfl
       have d1:v3.cell? ⟨v2.heap.size,1,none⟩=some (.int .i64 x.test):=zAA H8.out 1 _ rfl
       have d2:v3.cell? ⟨v2.heap.size,2,none⟩=some (.string ⟨x.name.toArray⟩):=zAA H8.out 2 _ rfl
       have d3:v3.cell? ⟨v2.heap.size,3,none⟩=some (.slice A2 x.preds.length c2):=zAA H8.out 3 _ rfl
       have HQ4:Hid ((S1++[y]≠[]∧P1+m=s.size∧V=.ok ((S1++[y]).map (·.1)) (P1+m))∨((P1+m<s.size∨S1++[y]=[])∧(qall (s.data.toList.drop (P1+m)) ((S1++[y]).map (·.1))).past (P1+m)=V)):=by
        have hmap:(S1++[y]).map (·.1)=S1.map (·.1)++[x]:=by rw [List.map_append,hy.out];rfl
        have ho:qone (s.data.toList.drop p) (S.map (·.1))=.ok (S1.map (·.1)++[x]) (P1-p+m):=by rw [HO2.out,hZ.out];rfl
        have hpP:=hP1e.out
        by_cases hend:P1+m=s.size
        ·refine .inl ⟨by simp,hend,?_⟩
         rw [← HQ.out,zDl ho (by rw [List.drop_drop];exact List.drop_eq_nil_of_le (by rw [HL.out];omega)),hmap]
         show Told.ok _ _=_
         rw [show p+(P1-p+m)=P1+m by omega]
        ·refine .inr ⟨.inl (by omega),?_⟩
         rw [← HQ.out,zC1 ho (by rw [List.drop_drop];intro h;have:=congrArg List.length h;rw [List.length_drop,HL.out] at this;simp at this;omega),List.drop_drop,Told.past_past,hmap,show p+(P1-p+m)=P1+m by omega]
       unfold slotC at hr4;rw [hy.out] at hr4;have hlen:(S1++[y]).length=S1.length+1:=by simp
       have HLEN:=Lib.hid hlen
       rw [hy.out] at hlen;clear h6 hPO hba hoa hg4 hf4 ho4 n9 H94
       go_wp2_with (at_builtin;refine zAK _ rfl _ _ 23 rfl (.slice A1 S1.length c1) (.slice (some ⟨v3.heap.size,0,none⟩) 1 1) (by simp [Act.eval]) (by simp [Act.eval]) hr4 ?_)
       try go_wp2_with fail
       go_roundw
       case rel =>
        refine ⟨P1+m,S1++[y],pa,pc,hm3,by rw [HLEN.out],by rw [HA2.out],by rw [HLEN.out];omega,HO4.out,HP4.out,HF4.out,HB4.out,HQ4.out⟩
       case measure=>rw [HA2.out];simp [intOf];have:=hP1e.out;omega
end
section
open Go.RowKit Go.Shelf
theorem zMW {f:Fo} {next nx:Int} (hI:InvF f next) (Ar:Option Addr) (cr:Nat) (w:World) (hT:TreeR (fun _=>True) w Ar cr (f.flat 0)) (q:ByteArray) (hq:q.size≤1000000000) (R:List StepD × Nat × Int) (hR:Hid (queryL q.data.toList=R)) :
  Calls Tryz.prog 17 #[.agg #[.slice Ar (f.flat 0).length cr,.int .i64 nx],.string q] w fun e w'=>∃ A c,e=.returned (.tuple #[.slice A (findW f R).length c,.int .i64 R.2.1,.int .i64 R.2.2])∧intRow w' (.slice A (findW f R).length c) (findW f R)∧Below w.heap.size w w':=by
 have HI:=Lib.hid hI
 have HT:=Lib.hid hT
 clear hI hT
 go_enter Tryz.func17,Tryz.ntmps17
 go_wp2_with fail;obtain ⟨w0,hw0⟩:∃ w0,Hid (w.alloc (.cells #[.slice Ar (f.flat 0).length cr,.int .i64 nx] 27)=w0):=⟨_,rfl⟩
 rw [hw0.out];have hb0:Below w.heap.size w w0:=by rw [← hw0.out];exact (Below.refl _ w).alloc (Nat.le_refl _) _
 have HX0:Hid (w0.heap[w.heap.size]? = some (.cells #[.slice Ar (f.flat 0).length cr,.int .i64 nx] 27 (0,0))):=by show _=_;rw [← hw0.out];exact heap_alloc_new w _
 have HT0:=Lib.hid (HT.out.below hb0)
 have HB0:=Lib.hid hb0
 clear hb0;refine (zMV q w0 hq R hR).mono ?_
 rintro e w1 ⟨As,cs,rfl,hat,hb1⟩;have HAT:=Lib.hid hat
 have HX1:Hid (w1.heap[w.heap.size]? = some (.cells #[.slice Ar (f.flat 0).length cr,.int .i64 nx] 27 (0,0))):=(hb1.block _ (Array.getElem?_eq_some_iff.1 HX0.out).1).trans HX0.out
 have HT1:=Lib.hid (HT0.out.below hb1)
 have HB1:=Lib.hid (HB0.out.trans (hb1.mono HB0.out.size))
 clear hat hb1;obtain ⟨ls,k,er⟩:=R
 by_cases he:er=0
 ·have hsm:SmallSteps ls:=by
   have h:=zDW (l:=q.data.toList) (by rw [hR.out];exact he)
   rw [hR.out] at h;exact h
  have HSM:=Lib.hid hsm
  have HFW:Hid (findW f (ls,k,er)=evalW f ls):=by show _=_;unfold findW;rw [if_pos he]
  have HK:Hid (k=0):=by
   have h:=hR.out
   unfold queryL at h;show _=_
   split at h
   ·injection h with _ h;injection h with _ h;omega
   ·split at h
    ·injection h with _ h;injection h with h _;exact h.symm
    ·rename_i hbad
     injection h with _ h;injection h with _ h
     have:=zBS (q.data.toList.length+1) q.data.toList []
     unfold qall at hbad;rw [hbad] at this;exact absurd (h.trans he) this.2
  subst he;have y0:w1.cell? ⟨w.heap.size,0,none⟩=some (.slice Ar (f.flat 0).length cr):=zAA HX1.out 0 _ rfl
  have y1:w1.cell? ⟨w.heap.size,1,none⟩=some (.int .i64 nx):=zAA HX1.out 1 _ rfl
  clear hsm
  go_wp2_with fail;refine (zI2 (f.flat 0) Ar cr nx w1 HT1.out (zHT HI.out) (by rw [Fo.flat_len];exact HI.out.cnt) ls As cs HAT.out HSM.out).mono ?_
  rintro e w5 ⟨Ab,cb,rfl,hrb5,hb5⟩;rw [zFS HI.out] at hrb5;rw [zFS HI.out];have HRB5:=Lib.hid hrb5
  have HB5:=Lib.hid (HB1.out.trans (hb5.mono HB1.out.size))
  clear hrb5 hb5 y0 y1
  go_wp2_with fail
  go_ret3;rw [HFW.out];refine ⟨Ab,cb,?_,HRB5.out,HB5.out⟩
  show _=Ending.returned (.tuple #[_,.int .i64 ((k:Nat):Int),.int .i64 0])
  rw [HK.out]
  rfl
 ·have heb:(er != 0)=true:=by simpa using he
  have HFW:Hid (findW f (ls,k,er)=[]):=by show _=_;unfold findW;rw [if_neg he]
  clear he
  go_wp2_with fail
  go_ret3;rw [HFW.out];exact ⟨none,0,rfl,⟨by simp,.inl ⟨rfl,rfl⟩⟩,HB1.out⟩
theorem zDa (l:List ItemD) (A:Option Addr) (c:Nat) (q:ByteArray) (w:World) (hI:ItemsAt w w.heap.size A l) (hS:SmallItems l) (hl:l.length≤2000000) (hq:q.size≤1048576) :
  Calls Tryz.prog 4 #[.slice A l.length c,.string q] w (Ret w (.bool true)):=by
 have HI:=Lib.hid hI
 have HS:=Lib.hid hS
 have HQ:=Lib.hid hq
 clear hI hS hq
 go_enter Tryz.func4,Tryz.ntmps4
 go_wp2_with fail;refine (zGI l A c w HI.out HS.out hl).mono ?_
 rintro e w1 ⟨M,t,f,next,Ar,cr,rfl,ht1,hr1,hf1,hb1,hlo1⟩;have HT1:=Lib.hid ht1
 have HR1:=Lib.hid hr1
 have HB1:=Lib.hid hb1
 clear ht1 hr1 hf1 hb1 hlo1
 go_upto_region 2 with (fail)
 obtain ⟨w2,hw2⟩:∃ w2,Hid (w1.alloc (.cells #[.slice Ar (f.flat 0).length cr,.int .i64 next] 27)=w2):=⟨_,rfl⟩
 have hb2:Below w1.heap.size w1 w2:=by rw [← hw2.out];exact (Below.refl _ w1).alloc (Nat.le_refl _) _
 have HX2:Hid (w2.heap[w1.heap.size]? = some (.cells (treeV Ar (f.flat 0).length cr next) 27 (0,0))):=by show _=_;rw [← hw2.out];exact heap_alloc_new w1 _
 have HT2:=Lib.hid (HT1.out.below hb2)
 have HR2:=Lib.hid (HR1.out.below hb2)
 have HB2:=Lib.hid (HB1.out.trans (hb2.mono HB1.out.size))
 obtain ⟨rb,hrb⟩:∃ rb,Hid (w1.heap.size=rb):=⟨_,rfl⟩
 rw [hrb.out] at HX2 ⊢;rw [hw2.out];clear hb2
 go_wp2_with fail;by_cases h40:(l.length:Int)≤40
 ·refine (zGp A l.length c w2 true (decide_eq_true h40)).mono ?_
  rintro e w3 ⟨rfl,hb3⟩;have HB3:=Lib.hid (HB2.out.trans (hb3.mono HB2.out.size))
  have HT3:=Lib.hid (HT2.out.below hb3)
  have HR3:=Lib.hid (HR2.out.below hb3)
  have HX3:Hid (w3.heap[rb]? = some (.cells (treeV Ar (f.flat 0).length cr next) 27 (0,0))):=(hb3.block _ (Array.getElem?_eq_some_iff.1 HX2.out).1).trans HX2.out
  clear hb3
  go_upto_region 4 with (fail)
  clear h40;obtain ⟨R,hR⟩:∃ R,Hid (queryL q.data.toList=R):=⟨_,rfl⟩
  have hfi:=zFG HT3.out q (by have:=HQ.out;unfold maxLen;omega) R hR
  unfold treeI at hfi
  go_wp2_with fail;refine hfi.mono ?_
  clear hfi;rintro e w4 ⟨Aa,ca,rfl,hra,hb4,_⟩;have HRA:=Lib.hid hra
  have HB4:=Lib.hid (HB3.out.trans (hb4.mono HB3.out.size))
  have HIN:=Lib.hid HT3.out.inv
  have HR4:=Lib.hid (HR3.out.below hb4)
  have hx4:=(hb4.block _ (Array.getElem?_eq_some_iff.1 HX3.out).1).trans HX3.out
  have y0:w4.cell? ⟨rb,0,none⟩=some (.slice Ar (f.flat 0).length cr):=zAA hx4 0 _ rfl
  have y1:w4.cell? ⟨rb,1,none⟩=some (.int .i64 next):=zAA hx4 1 _ rfl
  obtain ⟨ea,hea⟩:∃ ea,Hid (findW f R=ea):=⟨_,rfl⟩
  rw [hea.out] at HRA;rw [hea.out];clear hra hb4 hx4
  go_wp2_with fail;refine (zMW (nx:=next) HIN.out Ar cr w4 HR4.out q (by have:=HQ.out;omega) R hR).mono ?_
  rintro e w5 ⟨Ab,cb,rfl,hrb5,hb5⟩;rw [hea.out] at hrb5 ⊢;have HRB5:=Lib.hid hrb5
  have HB5:=Lib.hid (HB4.out.trans (hb5.mono HB4.out.size))
  have HRA5:Hid (intRow w5 (.slice Aa ea.length ca) ea):=zAC HRA.out fun b hb=>hb5.block b (zAJ HRA.out hb)
  obtain ⟨r1,hr1⟩:∃ r1:Int,Hid ((R.2.1:Int)=r1):=⟨_,rfl⟩
  obtain ⟨r2,hr2⟩:∃ r2:Int,Hid (R.2.2=r2):=⟨_,rfl⟩
  rw [hr1.out,hr2.out];clear hrb5 hb5 y0 y1
  go_wp2_with fail;refine (zEj w5).mono ?_
  rintro e v1 ⟨rfl,hc1⟩;have HC1:=Lib.hid hc1
  have HD1:=Lib.hid (HB5.out.trans (hc1.mono HB5.out.size))
  clear hc1
  go_wp2_with fail;refine (zCV _ _ ea ea v1 (zAC HRA5.out fun b hb=>HC1.out.block b (zAJ HRA5.out hb)) (zAC HRB5.out fun b hb=>HC1.out.block b (zAJ HRB5.out hb)) true (decide_eq_true rfl)).mono ?_
  rintro e v2 ⟨rfl,hc2⟩;have HD2:=Lib.hid (HD1.out.trans (hc2.mono HD1.out.size))
  clear hc2
  go_wp2_with fail
  go_ret;exact ⟨rfl,HD2.out⟩
 ·refine (zGp A l.length c w2 false (decide_eq_false h40)).mono ?_
  rintro e w3 ⟨rfl,hb3⟩;have HB3:=Lib.hid (HB2.out.trans (hb3.mono HB2.out.size))
  have HT3:=Lib.hid (HT2.out.below hb3)
  have HR3:=Lib.hid (HR2.out.below hb3)
  have HX3:Hid (w3.heap[rb]? = some (.cells (treeV Ar (f.flat 0).length cr next) 27 (0,0))):=(hb3.block _ (Array.getElem?_eq_some_iff.1 HX2.out).1).trans HX2.out
  clear hb3
  go_wp2_with fail;refine (zEj w3).mono ?_
  rintro e w4 ⟨rfl,hb4⟩;have HB4:=Lib.hid (HB3.out.trans (hb4.mono HB3.out.size))
  clear hb4
  go_wp2_with fail
  go_ret;exact ⟨rfl,HB4.out⟩
end
section
open Go.RowKit Go.ChangeShapes Go.WideShapes Go.Deep
theorem zHb (ad:Addr) (a j:Nat) (hj:j≠0):ad.add (a+j)=⟨(ad.add a).block,(ad.add a).off+j,none⟩:=by
 rw [← zBI]
 generalize ad.add a=b
 unfold Addr.add;rw [if_neg hj]
theorem zC9 {H:Type} {enc:TypeId × Value→H} {P:Program} {w:World} {t e:TypeId} {fs:Array Field} {fuel:Nat} {cs:List Value} {x:DataW H × List MemPlace} (ht:P.underlying t=some (.slice e)) (he:P.underlying e=some (.struct fs))
  (h1:oneCellFields P fs=true) (h2:P.cellsOf e=fs.size) (h:DataW.trod enc P w 0 (fun _=>true) true fuel t cs=some x) :
  (cs=[.slice none 0 0]∧x.1=.nil) ∨
  ∃ (a:Addr) (len cap:Nat) (D:Nat→DataW H) (rest:List (DataW H)),cs=[.slice (some a) len cap]∧len≤cap∧cap≤maxLen∧x.1=.slice ((List.range len).map D) rest ∧
   ∀ i,i<len → ∃ (ys:List (DataW H × List MemPlace)) (n:Nat),D i=.agg (ys.map (·.1))∧ys.length=fs.size ∧
    ∀ (j:Nat) (f:Field),fs[j]? = some f → ∃ v y,w.cell? (a.add (i * fs.size+j))=some v∧ys[j]? = some y∧DataW.trod enc P w 0 (fun _=>true) true n f.type [v]=some y:=by
 rcases open_slice ht h with ⟨e1,e2⟩ | ⟨a,len,cap,m,n,D,Pl,e1,_,k1,k2,k3,e2,each⟩
 ·exact .inl ⟨e1,by rw [e2]⟩
 ·right
  have hm:m=cap:=by simpa using k3
  refine ⟨a,len,cap,D,_,e1,k1,k2,by rw [e2],fun i hi=>?_⟩
  obtain ⟨row,hrow,hread⟩:=each i (by omega)
  obtain ⟨_,hl,hat⟩:=World.cells?_some hrow
  obtain ⟨ys,n',_,hy,_,hyl,hfield⟩:=DataW.trod_struct he hread
  refine ⟨ys,n',by rw [Prod.mk.injEq] at hy;exact hy.1,hyl,fun j f hj=>?_⟩
  have hjs:j<fs.size:=(Array.getElem?_eq_some_iff.1 hj).1
  obtain ⟨o1,o2⟩:=hone_of h1 j f hj
  have hjr:j<row.length:=by rw [hl,h2];exact hjs
  have hv:=hat j (by rw [h2];exact hjs)
  have hone:(row.drop f.offset).take (P.cellsOf f.type)=[row[j]]:=by rw [o1,o2,List.drop_eq_getElem_cons hjr];rfl
  have hr:=hfield j f hj
  rw [hone] at hr;have hys:ys[j]? = some (ys[j]'(by omega)):=List.getElem?_eq_getElem _
  refine ⟨row[j],_,?_,hys,hr.trans hys⟩
  rw [h2,zBI,List.getElem?_eq_getElem hjr] at hv;exact hv
theorem zHC {α:Type} {P:Nat→α→Prop}:∀ (n:Nat),(∀ i,i<n → ∃ x,P i x) → ∃ l:List α,l.length=n ∧ ∀ i x,l[i]? = some x→P i x
 | 0,_=>⟨[],rfl,fun _ _ h=>by simp at h⟩
 | n+1,h=>by
  obtain ⟨l,hl,hp⟩:=zHC n (fun i hi=>h i (by omega))
  obtain ⟨x,hx⟩:=h n (by omega)
  refine ⟨l++[x],by simp [hl],fun i y hy=>?_⟩
  by_cases hi:i<l.length
  ·rw [List.getElem?_append_left hi] at hy;exact hp i y hy
  ·rw [List.getElem?_append_right (by omega)] at hy
   have:i-l.length=0:=by
    have:=(List.getElem?_eq_some_iff.1 hy).1
    simp at this;omega
   rw [this] at hy;simp at hy;subst hy;rw [show i=n by omega];exact hx
theorem zCo {H:Type} (D:Nat→DataW H):∀ n i,i<n→Rows.uptoBulk (D i)≤Rows.uptoBulkAll ((List.range n).map D):=by
 have app:∀ (a b:List (DataW H)),Rows.uptoBulkAll (a++b)=Rows.uptoBulkAll a+Rows.uptoBulkAll b:=by
  intro a b
  induction a with
  | nil=>simp [Rows.uptoBulkAll]
  | cons x a ih=>simp only [List.cons_append,Rows.uptoBulkAll,ih];omega
 intro n
 induction n with
 | zero=>intro i h;omega
 | succ n ih =>
  intro i h;rw [List.range_succ,List.map_append,app];by_cases hi:i<n
  ·have:=ih i hi;omega
  ·have:i=n:=by omega
   subst this;simp [Rows.uptoBulkAll]
theorem zCX {H α:Type} (f:α→Nat) (D:Nat→DataW H):∀ (l:List α),(∀ i x,l[i]? = some x→f x≤Rows.uptoBulk (D i))→(l.map f).sum≤Rows.uptoBulkAll ((List.range l.length).map D):=by
 have app:∀ (a b:List (DataW H)),Rows.uptoBulkAll (a++b)=Rows.uptoBulkAll a+Rows.uptoBulkAll b:=by
  intro a b
  induction a with
  | nil=>simp [Rows.uptoBulkAll]
  | cons x a ih=>simp only [List.cons_append,Rows.uptoBulkAll,ih];omega
 have key:∀ (n:Nat) (l:List α),l.length=n→(∀ i x,l[i]? = some x→f x≤Rows.uptoBulk (D i))→(l.map f).sum≤Rows.uptoBulkAll ((List.range n).map D):=by
  intro n
  induction n with
  | zero=>intro l hl _;rw [List.eq_nil_of_length_eq_zero hl];simp
  | succ n ih =>
   intro l hl h;have hne:l≠[]:=fun e=>by rw [e] at hl;cases hl
   rw [← List.dropLast_concat_getLast hne,List.map_append,List.sum_append,List.range_succ,List.map_append,app];have h1:=ih l.dropLast (by simp [hl]) (fun i x hx=>h i x (by
    have hi:=(List.getElem?_eq_some_iff.1 hx).1
    rw [List.getElem?_dropLast] at hx
    split at hx
    ·exact hx
    ·cases hx))
   have h2:=h n (l.getLast hne) (by rw [List.getLast_eq_getElem,← List.getElem?_eq_getElem,hl];rfl)
   simp only [List.map_cons,List.map_nil,List.sum_cons,List.sum_nil,Rows.uptoBulkAll];omega
 intro l h;exact key l.length l rfl h
theorem zH5 {α:Type} (l:List α):(l.map (fun _=>1)).sum=l.length:=by
 induction l with
 | nil=>rfl
 | cons x l ih=>rw [List.map_cons,List.sum_cons,ih,List.length_cons];omega
end
section
open Go.RowKit Go.ChangeShapes Go.WideShapes Go.Deep
theorem zIf {W:World} {H:Type} {enc:TypeId × Value→H} {fuel:Nat} {cs:List Value} {x:DataW H × List MemPlace} (h:DataW.trod enc Tryz.prog W 0 (fun _=>true) true fuel 47 cs=some x) :
  ∃ (A:Option Addr) (c:Nat) (l:List AttrD),cs=[.slice A l.length c]∧AttrsAt W W.heap.size A l∧l.length≤c∧(A=none→c=0)∧l.length≤Rows.uptoBulk x.1∧(∀ a∈l,a.name.length+a.value.length≤Rows.uptoBulk x.1):=by
 rcases zC9 Tryz.underlying47 Tryz.underlying77 (by kernel_rfl) (by kernel_rfl) h with ⟨rfl,hx⟩ | ⟨a,len,cap,D,rest,rfl,hlc,hcm,hx,hf⟩
 ·exact ⟨none,0,[],rfl,fun h=>absurd h (by simp),Nat.le_refl _,fun _=>rfl,by simp,by simp⟩
 ·rw [hx]
  obtain ⟨l,hl,hp⟩:=zHC (P:=fun i (y:AttrD)=>W.cell? (a.add (i * 2))=some (strV y.name)∧W.cell? ⟨(a.add (i * 2)).block,(a.add (i * 2)).off+1,none⟩=some (strV y.value)∧y.name.length+y.value.length+1≤Rows.uptoBulk (D i)) len (fun i hi=>by
   obtain ⟨ys,n,hD,hyl,hj⟩:=hf i hi
   obtain ⟨v0,y0,hc0,hy0,ht0⟩:=hj 0 _ rfl
   obtain ⟨v1,y1,hc1,hy1,ht1⟩:=hj 1 _ rfl
   obtain ⟨s0,e0,rfl,_⟩:=DataW.trod_string Tryz.underlying9 ht0
   obtain ⟨s1,e1,rfl,_⟩:=DataW.trod_string Tryz.underlying9 ht1
   injection e0 with e0 _;subst e0
   injection e1 with e1 _;subst e1
   refine ⟨⟨s0.data.toList,s1.data.toList⟩,?_,?_,?_⟩
   ·rw [Nat.add_zero] at hc0
    rw [show i * 2=i * (_:Nat) from rfl];exact hc0
   ·rw [zHb _ _ _ (by decide)] at hc1;exact hc1
   ·rw [hD]
    match ys,hyl,hy0,hy1 with
    | [z0,z1],_,hy0,hy1 =>
     simp at hy0 hy1
     subst hy0;subst hy1;simp [Rows.uptoBulk,Rows.uptoBulkAll]
     omega)
  refine ⟨some a,cap,l,by rw [hl],?_,by omega,(fun h=>by cases h),?_,?_⟩
  ·intro hpos
   have h0:l[0]? = some (l[0]'hpos):=List.getElem?_eq_getElem hpos
   have hb:=World.block_lt_of_cell? W _ (hp 0 _ h0).1
   rw [zAD] at hb;exact ⟨a,rfl,hb,fun k y hy=>⟨(hp k y hy).1,(hp k y hy).2.1⟩⟩
  ·have:=zCX (fun _:AttrD=>1) D l (fun i y hy=>by have:=(hp i y hy).2.2;omega)
   rw [hl] at this;simp only [Rows.uptoBulk];have e:=zH5 l
   omega
  ·intro y hy
   obtain ⟨k,hk⟩:=List.mem_iff_getElem?.1 hy
   have h1:=(hp k y hk).2.2
   have h2:=zCo D len k (by rw [← hl];exact (List.getElem?_eq_some_iff.1 hk).1)
   simp only [Rows.uptoBulk];omega
def NilAt (w:World) (A:Option Addr) (l:List ItemD):Prop:=∀ ad,A=some ad → ∀ k x A' c',l[k]? = some x→w.cell? ⟨(ad.add (k * 5)).block,(ad.add (k * 5)).off+4,none⟩=some (.slice A' x.attrs.length c')→A'=none→c'=0
theorem zIg {W:World} {H:Type} {enc:TypeId × Value→H} {v:Value} {d:DataW H} {p:List MemPlace} (hok:∃ a n c,v=.slice a n c) (h:DataW.Trod enc Tryz.prog W 0 (fun _=>true) true 22 v d p) (hbulk:Rows.uptoBulk d≤1048576) :
  ∃ (A:Option Addr) (c:Nat) (l:List ItemD),v=.slice A l.length c∧ItemsAt W W.heap.size A l∧SmallDoc l∧l.length≤1048576∧textSum l≤1048576∧NilAt W A l:=by
 obtain ⟨va,vn,vc,rfl⟩:=hok
 obtain ⟨fuel,h⟩:=h
 rcases zC9 Tryz.underlying22 Tryz.underlying75 (by kernel_rfl) (by kernel_rfl) h with ⟨e,e2⟩ | ⟨a,len,cap,D,rest,e,hlc,hcm,e2,hf⟩
 ·injection e with e _
  injection e with e1 e2' e3
  subst e1;subst e2';subst e3;refine ⟨none,0,[],rfl,fun h=>absurd h (by simp),⟨⟨by simp,fun _ _ h=>by simp at h⟩,by simp [textSum]⟩,by simp,by simp [textSum],fun _ h=>by cases h⟩
 ·injection e with e _
  injection e with e1 e2' e3
  subst e1;have e2'':=e2'.symm
  have e3'':=e3.symm
  subst e2'';subst e3'';have e2:d=.slice ((List.range len).map D) rest:=e2
  subst e2;obtain ⟨l,hl,hp⟩:=zHC (P:=fun i (x:ItemD)=>∃ (A':Option Addr) (c':Nat),AttrsAt W W.heap.size A' x.attrs∧x.attrs.length≤c'∧W.cell? (a.add (i * 5))=some (.int .i64 x.level)∧W.cell? ⟨(a.add (i * 5)).block,(a.add (i * 5)).off+1,none⟩=some (.int .i64 x.kind) ∧
    W.cell? ⟨(a.add (i * 5)).block,(a.add (i * 5)).off+2,none⟩=some (strV x.name)∧W.cell? ⟨(a.add (i * 5)).block,(a.add (i * 5)).off+3,none⟩=some (strV x.text)∧W.cell? ⟨(a.add (i * 5)).block,(a.add (i * 5)).off+4,none⟩=some (.slice A' x.attrs.length c') ∧
    (-9223372036854775808≤x.level∧x.level≤9223372036854775807)∧x.name.length+x.text.length+x.attrs.length+1≤Rows.uptoBulk (D i)∧(∀ y∈x.attrs,y.name.length+y.value.length≤Rows.uptoBulk (D i))∧(A'=none→c'=0)) len (fun i hi=>by
   obtain ⟨ys,n,hD,hyl,hj⟩:=hf i hi
   obtain ⟨v0,y0,hc0,hy0,ht0⟩:=hj 0 _ rfl
   obtain ⟨v1,y1,hc1,hy1,ht1⟩:=hj 1 _ rfl
   obtain ⟨v2,y2,hc2,hy2,ht2⟩:=hj 2 _ rfl
   obtain ⟨v3,y3,hc3,hy3,ht3⟩:=hj 3 _ rfl
   obtain ⟨v4,y4,hc4,hy4,ht4⟩:=hj 4 _ rfl
   obtain ⟨n0,e0,rfl,w0⟩:=DataW.trod_int Tryz.underlying3 ht0
   obtain ⟨n1,e1,rfl,_⟩:=DataW.trod_int Tryz.underlying3 ht1
   obtain ⟨s2,e2,rfl,_⟩:=DataW.trod_string Tryz.underlying9 ht2
   obtain ⟨s3,e3,rfl,_⟩:=DataW.trod_string Tryz.underlying9 ht3
   obtain ⟨A',c',la,e4,hat,hlc',hnil,hb1,hb2⟩:=zIf ht4
   injection e0 with e0 _;subst e0
   injection e1 with e1 _;subst e1
   injection e2 with e2 _;subst e2
   injection e3 with e3 _;subst e3
   injection e4 with e4 _;subst e4
   rw [zHb _ _ _ (by decide)] at hc1 hc2 hc3 hc4
   rw [Nat.add_zero] at hc0;refine ⟨⟨n0,n1,s2.data.toList,s3.data.toList,la⟩,A',c',hat,hlc',hc0,hc1,hc2,hc3,hc4,?_,?_,?_,hnil⟩
   ·simp [Lit.wf,IntKind.min,IntKind.max,IntKind.signed,IntKind.bits] at w0
    show -9223372036854775808≤n0∧n0≤9223372036854775807
    exact ⟨by omega,by omega⟩
   ·rw [hD]
    match ys,hyl,hy0,hy1,hy2,hy3,hy4 with
    | [z0,z1,z2,z3,z4],_,hy0,hy1,hy2,hy3,hy4 =>
     simp at hy0 hy1 hy2 hy3 hy4
     subst hy0;subst hy1;subst hy2;subst hy3;subst hy4;simp [Rows.uptoBulk,Rows.uptoBulkAll]
     omega
   ·intro y hy
    rw [hD];have:=hb2 y hy
    match ys,hyl,hy0,hy1,hy2,hy3,hy4 with
    | [z0,z1,z2,z3,z4],_,hy0,hy1,hy2,hy3,hy4 =>
     simp at hy0 hy1 hy2 hy3 hy4
     subst hy0;subst hy1;subst hy2;subst hy3;subst hy4;simp [Rows.uptoBulk,Rows.uptoBulkAll]
     omega)
  simp only [Rows.uptoBulk] at hbulk;have hone:∀ k,k<len→Rows.uptoBulk (D k)≤1048576:=fun k hk=>by have:=zCo D len k hk;omega
  have hcount:=zCX (fun _:ItemD=>1) D l (fun i y hy=>by obtain ⟨_,_,_,_,_,_,_,_,_,_,h,_⟩:=hp i y hy;omega)
  have htext:=zCX (fun x:ItemD=>x.text.length) D l (fun i y hy=>by obtain ⟨_,_,_,_,_,_,_,_,_,_,h,_⟩:=hp i y hy;omega)
  have e:=zH5 l
  rw [hl] at hcount htext;have hl2:l.length≤1048576:=by omega
  have ht2:textSum l≤1048576:=by unfold textSum;omega
  refine ⟨some a,cap,l,by rw [hl],?_,⟨⟨by omega,fun k x hx=>?_⟩,by omega⟩,hl2,ht2,?_⟩
  ·intro hpos
   have h0:l[0]? = some (l[0]'hpos):=List.getElem?_eq_getElem hpos
   obtain ⟨_,_,_,_,hc0,_⟩:=hp 0 _ h0
   have hb:=World.block_lt_of_cell? W _ hc0
   rw [zAD] at hb;refine ⟨a,rfl,hb,fun k x hx=>?_⟩
   obtain ⟨A',c',k1,k2,k3,k4,k5,k6,k7,_⟩:=hp k x hx
   exact ⟨A',c',k1,k2,k3,k4,k5,k6,k7⟩
  ·obtain ⟨A',c',k1,k2,k3,k4,k5,k6,k7,k8,k9,k10⟩:=hp k x hx
   have hk:=hone k (by rw [← hl];exact (List.getElem?_eq_some_iff.1 hx).1)
   exact ⟨by omega,by omega,by omega,fun j y hy=>by have:=k10.1 y (List.mem_of_getElem? hy);omega,k8⟩
  ·intro ad had k x A2 c2 hx hcell hA2
   injection had with had
   subst had;obtain ⟨A',c',k1,k2,k3,k4,k5,k6,k7,k8,k9,k10⟩:=hp k x hx
   rw [k7] at hcell
   injection hcell with hcell
   injection hcell with q1 _ q3
   rw [← q3];exact k10.2 (by rw [q1];exact hA2)
end
end Go.Proofs.YtcombcoilpmnkaaGreat

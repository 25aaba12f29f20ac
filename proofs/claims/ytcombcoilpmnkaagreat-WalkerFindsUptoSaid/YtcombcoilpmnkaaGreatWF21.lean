/-
  Texts of this claim, joined (by a program of the claim's author): R7d, WTstP, WTst, WTsw, WDepP.
-/
import Derived.Test.YtcombcoilpmnkaaGreatWF1
import Derived.Test.YtcombcoilpmnkaaGreatWF20
import Derived.Test.YtcombcoilpmnkaaGreatWF3
import Derived.Deep.Cut
import Derived.Test.YtcombcoilpmnkaaGreatWF17
import Derived.Test.YtcombcoilpmnkaaGreatWF12
import Derived.Test.YtcombcoilpmnkaaGreatWF18
namespace Go.Proofs.YtcombcoilpmnkaaGreat
set_option maxRecDepth 100000
set_option maxHeartbeats 16000000
section
open Go.RowKit Go.Shelf
theorem zDQ (s:ByteArray) (p:Nat) (i:Int) (t:List UInt8) (w:World) (hp:p≤s.size) (hs:s.size≤1000000000) (ht:t.length≤1000) (v:Bool) (hv:Hid (pre t (s.data.toList.drop p)=v)) (hi:i=(p:Int)) :
  Calls Tryz.prog 66 #[.string s,.int .i64 i,.string ⟨t.toArray⟩] w (Ret w (.bool v)):=by
 subst hi;exact zAn s p t w hp hs ht v hv
theorem zJr (s:ByteArray) (p:Nat) (i:Int) (w:World) (hp:p≤s.size) (hs:s.size≤1000000000) (n:Nat) (hn:Hid (p+partN (s.data.toList.drop p)=n)) (hi:i=(p:Int)) :
  Calls Tryz.prog 124 #[.string s,.int .i64 i] w (Ret w (.int .i64 n)):=by
 subst hi;exact zHq s p w hp hs n hn
def VRel (p:Nat) (V:Told (List UInt8)) (vv:List UInt8) (a b c:Int):Prop:=match V with
 | .ok v n=>vv=v∧a=((p+n:Nat):Int)∧b=0∧c=0
 | .bad k e=>vv=[]∧a=0∧b=((p+k:Nat):Int)∧c=e
theorem zKP (s:ByteArray) (p:Nat) (i:Int) (w:World) (hp:p≤s.size) (hs:s.size≤1000000000) (V:Told (List UInt8)) (hV:Hid (qvalue (s.data.toList.drop p)=V)) (hi:i=(p:Int)) :
  Calls Tryz.prog 143 #[.string s,.int .i64 i] w fun e w'=>∃ vv a b c,e=.returned (.agg (partC 0 0 [] vv a b c))∧VRel p V vv a b c∧Below w.heap.size w w':=by
 subst hi;refine (zMr s p w hp hs V hV).mono ?_
 rintro e w' ⟨hb,h⟩;cases V with
 | ok v n=>exact ⟨_,_,_,_,h,⟨rfl,rfl,rfl,rfl⟩,hb⟩
 | bad k c=>exact ⟨_,_,_,_,h,⟨rfl,rfl,rfl,rfl⟩,hb⟩
def PRel (p:Nat) (V:Told PredD) (ki nu:Int) (na va:List UInt8) (a b c:Int):Prop:=match V with
 | .ok x n=>ki=x.kind∧nu=x.num∧na=x.name∧va=x.value∧a=((p+n:Nat):Int)∧c=0
 | .bad k e=>b=((p+k:Nat):Int)∧c=e
def PPost (w:World) (p:Nat) (V:Told PredD) (e:Ending) (w':World):Prop :=
 ∃ ki nu na va a b c,e=.returned (.agg (partC ki nu na va a b c))∧PRel p V ki nu na va a b c∧Below w.heap.size w w'
def pvT:Told (List UInt8)→Told PredD
 | .bad k e=>.bad (7+k) e
 | .ok v m=>.ok ⟨5,0,[],v⟩ (7+m)
def paT (nm:List UInt8) (n:Nat):Told (List UInt8)→Told PredD
 | .bad k e=>.bad (1+(n+1+k)) e
 | .ok v m=>.ok ⟨4,0,nm,v⟩ (1+(n+1+m))
def pnT:Told Int→Told PredD
 | .bad k e=>.bad k e
 | .ok n m=>.ok ⟨1,n,[],[]⟩ m
theorem zMy (s:ByteArray) (p:Nat) (w:World) (hp:p≤s.size) (hs:s.size≤1000000000) (V:Told PredD) (hV:Hid (qpred (s.data.toList.drop p)=V)) :
  Calls Tryz.prog 135 #[.string s,.int .i64 p] w (PPost w p V):=by
 have HL:=Lib.hid (zAH s)
 have p0:(0:Int)≤(p:Int):=by omega
 have p1:(p:Int)≤s.size:=by omega
 cases h64:pre [64] (s.data.toList.drop p) with
 | false =>
  cases hla:pre tLast (s.data.toList.drop p) with
  | true =>
   have HV:Hid (V=.ok ⟨2,0,[],[]⟩ 6):=by show _=_;rw [← hV.out];unfold qpred;rw [if_neg (by rw [h64];decide),if_pos hla]
   have HLA:=Lib.hid hla
   clear h64 hla
   go_enter Tryz.func135,Tryz.ntmps135
   go_wp2_with fail;obtain ⟨W1,hW1⟩:∃ W1,Hid (W1=w.alloc (.cells zeroPt 191)):=⟨_,rfl⟩
   change Calls _ _ _ (w.alloc (.cells zeroPt 191)) _
   rw [← hW1.out];have hb1:Below w.heap.size w W1:=by rw [hW1.out];exact (Below.refl _ w).alloc (Nat.le_refl _) _
   have HT1:Hid (W1.heap[w.heap.size]? = some (.cells zeroPt 191 (0,0))):=by show _=_;rw [hW1.out];exact heap_alloc_new w _
   have HB1:=Lib.hid hb1
   clear hb1;refine (zAn s p tLast W1 hp hs (by decide) true HLA.out).mono ?_
   rintro e w2 ⟨rfl,hb2⟩;have HT2:=Lib.hid (zAB hb2 HT1.out)
   have HB2:=Lib.hid (HB1.out.trans (hb2.mono HB1.out.size))
   clear hb2
   go_wp2_with (refine wpList_store_row rfl 191 (.tmp 4) (.tmp 15) rfl w.heap.size (partC 2 0 [] [] ((p:Int)+6) 0 0) rfl rfl 191 zeroPt HT2.out (by kernel_rfl) rfl (zAW _ _ _ _ _ _ _) ?_)
   try simp only [Exit.inBlock,Exit.then]
   refine bodyPost_ret (results_cell_row Tryz.results135 _ _ w.heap.size 191 (partC 2 0 [] [] ((p:Int)+6) 0 0) (0,0) _ rfl (setRow_heap _ _ _ _ _ _ HT2.out) Tryz.underlying191 rfl (by kernel_rfl)) rfl ?_
   unfold PPost;refine ⟨_,_,_,_,_,_,_,rfl,?_,zAE HB2.out (Nat.le_refl _) _⟩
   rw [HV.out];exact ⟨rfl,rfl,rfl,rfl,by omega,rfl⟩
  | false =>
   have HLA:=Lib.hid hla
   cases hte:pre tText (s.data.toList.drop p) with
   | true =>
    have hp6:p+6≤s.size:=by
     have:=zAU hte
     rw [List.length_drop,HL.out] at this;have h6:tText.length=6:=rfl
     omega
    have q1:(p:Int)+6≤s.size:=by omega
    have HTE:=Lib.hid hte
    cases heq:pre [61] (s.data.toList.drop (p+6)) with
    | false =>
     have HEQ:=Lib.hid heq
     have HV:Hid (V=.bad 6 70):=by
      show _=_
      rw [← hV.out];unfold qpred;rw [if_neg (by rw [h64];decide),if_neg (by rw [hla];decide),if_pos hte,List.drop_drop,if_pos heq]
     clear h64 hla hte heq
     go_enter Tryz.func135,Tryz.ntmps135
     go_wp2_with fail;obtain ⟨W1,hW1⟩:∃ W1,Hid (W1=w.alloc (.cells zeroPt 191)):=⟨_,rfl⟩
     change Calls _ _ _ (w.alloc (.cells zeroPt 191)) _
     rw [← hW1.out];have hb1:Below w.heap.size w W1:=by rw [hW1.out];exact (Below.refl _ w).alloc (Nat.le_refl _) _
     have HT1:Hid (W1.heap[w.heap.size]? = some (.cells zeroPt 191 (0,0))):=by show _=_;rw [hW1.out];exact heap_alloc_new w _
     have HB1:=Lib.hid hb1
     clear hb1;refine (zAn s p tLast W1 hp hs (by decide) false HLA.out).mono ?_
     rintro e w2 ⟨rfl,hb2⟩;have HT2:=Lib.hid (zAB hb2 HT1.out)
     have HB2:=Lib.hid (HB1.out.trans (hb2.mono HB1.out.size))
     clear hb2
     go_wp2_with fail;refine (zAn s p tText w2 hp hs (by decide) true HTE.out).mono ?_
     rintro e w3 ⟨rfl,hb3⟩;have HT3:=Lib.hid (zAB hb3 HT2.out)
     have HB3:=Lib.hid (HB2.out.trans (hb3.mono HB2.out.size))
     clear hb3
     go_wp2_with fail;refine (zDQ s (p+6) _ [61] w3 hp6 hs (by decide) false HEQ.out (by omega)).mono ?_
     rintro e w4 ⟨rfl,hb4⟩;have HT4:=Lib.hid (zAB hb4 HT3.out)
     have HB4:=Lib.hid (HB3.out.trans (hb4.mono HB3.out.size))
     clear hb4
     go_wp2_with fail;refine (zBh _ 70 w4).mono ?_
     rintro e w5 ⟨rfl,hb5⟩;have HT5:=Lib.hid (zAB hb5 HT4.out)
     have HB5:=Lib.hid (HB4.out.trans (hb5.mono HB4.out.size))
     clear hb5
     go_wp2_with (refine wpList_store_row rfl 191 (.tmp 4) (.tmp 26) rfl w.heap.size (partC 0 0 [] [] 0 ((p:Int)+6) 70) rfl rfl 191 zeroPt HT5.out (by kernel_rfl) rfl (zAW _ _ _ _ _ _ _) ?_)
     try simp only [Exit.inBlock,Exit.then]
     refine bodyPost_ret (results_cell_row Tryz.results135 _ _ w.heap.size 191 (partC 0 0 [] [] 0 ((p:Int)+6) 70) (0,0) _ rfl (setRow_heap _ _ _ _ _ _ HT5.out) Tryz.underlying191 rfl (by kernel_rfl)) rfl ?_
     unfold PPost;refine ⟨_,_,_,_,_,_,_,rfl,?_,zAE HB5.out (Nat.le_refl _) _⟩
     rw [HV.out];exact ⟨by omega,rfl⟩
    | true =>
     have hp7:p+7≤s.size:=by
      have:=zAU heq
      rw [List.length_drop,HL.out] at this;simp at this;omega
     have q2:(p:Int)+7≤s.size:=by omega
     have HEQ:=Lib.hid heq
     obtain ⟨Y,hY⟩:∃ Y,Hid (qvalue (s.data.toList.drop (p+7))=Y):=⟨_,rfl⟩
     have HV:Hid (V=pvT Y):=by
      show _=_
      rw [← hV.out,← hY.out];unfold qpred;rw [if_neg (by rw [h64];decide),if_neg (by rw [hla];decide),if_pos hte,List.drop_drop,if_neg (by rw [heq];decide),List.drop_drop]
      cases qvalue (s.data.toList.drop (p+7)) <;> rfl
     clear h64 hla hte heq
     go_enter Tryz.func135,Tryz.ntmps135
     go_wp2_with fail;obtain ⟨W1,hW1⟩:∃ W1,Hid (W1=w.alloc (.cells zeroPt 191)):=⟨_,rfl⟩
     change Calls _ _ _ (w.alloc (.cells zeroPt 191)) _
     rw [← hW1.out];have hb1:Below w.heap.size w W1:=by rw [hW1.out];exact (Below.refl _ w).alloc (Nat.le_refl _) _
     have HT1:Hid (W1.heap[w.heap.size]? = some (.cells zeroPt 191 (0,0))):=by show _=_;rw [hW1.out];exact heap_alloc_new w _
     have HB1:=Lib.hid hb1
     clear hb1;refine (zAn s p tLast W1 hp hs (by decide) false HLA.out).mono ?_
     rintro e w2 ⟨rfl,hb2⟩;have HT2:=Lib.hid (zAB hb2 HT1.out)
     have HB2:=Lib.hid (HB1.out.trans (hb2.mono HB1.out.size))
     clear hb2
     go_wp2_with fail;refine (zAn s p tText w2 hp hs (by decide) true HTE.out).mono ?_
     rintro e w3 ⟨rfl,hb3⟩;have HT3:=Lib.hid (zAB hb3 HT2.out)
     have HB3:=Lib.hid (HB2.out.trans (hb3.mono HB2.out.size))
     clear hb3
     go_wp2_with fail;refine (zDQ s (p+6) _ [61] w3 hp6 hs (by decide) true HEQ.out (by omega)).mono ?_
     rintro e w4 ⟨rfl,hb4⟩;have HTa:=Lib.hid (zAB hb4 HT3.out)
     have HBa:=Lib.hid (HB3.out.trans (hb4.mono HB3.out.size))
     clear hb4 HT3 HB3
     go_wp2_with fail;refine (zKP s (p+7) _ _ hp7 hs Y hY (by omega)).mono ?_
     rintro e v3 ⟨vv,va,vb,vc,rfl,hrel,hv3⟩;have HRL:=Lib.hid hrel
     have HT3:=Lib.hid (zAB hv3 HTa.out)
     have HB3:=Lib.hid (HBa.out.trans (hv3.mono HBa.out.size))
     clear hv3 hrel;unfold partC
     go_upto_region 7 with (fail)
     obtain ⟨v4,hv4⟩:∃ v4,Hid (v3.alloc (.cells (partC 0 0 [] vv va vb vc) 191)=v4):=⟨_,rfl⟩
     have hv4':=hv4.out
     unfold partC at hv4';rw [hv4'];have HB4:Hid (Below v3.heap.size v3 v4):=by show Below _ _ _;rw [← hv4.out];exact (Below.refl _ v3).alloc (Nat.le_refl _) _
     have HX4:Hid (v4.heap[v3.heap.size]? = some (.cells (partC 0 0 [] vv va vb vc) 191 (0,0))):=by show _=_;rw [← hv4.out];exact heap_alloc_new v3 _
     clear hv4';have fr:=zAV HX4.out 0
     have fc:=zAA HX4.out 0 _ rfl
     go_upto_region 8 with (fail)
     have HX5:Hid ((v4.setCell ⟨v3.heap.size,0,none⟩ (.int .i64 5)).heap[v3.heap.size]? = some (.cells (partC 5 0 [] vv va vb vc) 191 (0,0))):=Lib.heap_setCell_same (i:=0) HX4.out _
     have HT5:Hid ((v4.setCell ⟨v3.heap.size,0,none⟩ (.int .i64 5)).heap[w.heap.size]? = some (.cells zeroPt 191 (0,0))):=by
      show _=_
      rw [Below.heap_setCell _ _ _ _ (show w.heap.size≠v3.heap.size from by have:=(Array.getElem?_eq_some_iff.1 HT3.out).1;omega)]
      exact zAB HB4.out HT3.out
     have HB5:Hid (Below w.heap.size w (v4.setCell ⟨v3.heap.size,0,none⟩ (.int .i64 5))):=(HB3.out.trans (HB4.out.mono HB3.out.size)).setCell HB3.out.size _
     obtain ⟨v5,hv5⟩:∃ v5,Hid (v4.setCell ⟨v3.heap.size,0,none⟩ (.int .i64 5)=v5):=⟨_,rfl⟩
     rw [hv5.out] at HX5 HT5 HB5 ⊢;clear fr fc;have c0:=zAA HX5.out 0 _ rfl
     have c1:=zAA HX5.out 1 _ rfl
     have c2:=zAA HX5.out 2 _ rfl
     have c3:=zAA HX5.out 3 _ rfl
     have c4:=zAA HX5.out 4 _ rfl
     have c5:=zAA HX5.out 5 _ rfl
     have c6:=zAA HX5.out 6 _ rfl
     go_wp2_with (refine wpList_store_row rfl 191 (.tmp 4) (.tmp 33) rfl w.heap.size (partC 5 0 [] vv va vb vc) rfl rfl 191 zeroPt HT5.out (by kernel_rfl) rfl (zAW _ _ _ _ _ _ _) ?_)
     try simp only [Exit.inBlock,Exit.then]
     refine bodyPost_ret (results_cell_row Tryz.results135 _ _ w.heap.size 191 (partC 5 0 [] vv va vb vc) (0,0) _ rfl (setRow_heap _ _ _ _ _ _ HT5.out) Tryz.underlying191 rfl (by kernel_rfl)) rfl ?_
     unfold PPost;refine ⟨_,_,_,_,_,_,_,rfl,?_,zAE HB5.out (Nat.le_refl _) _⟩
     rw [HV.out];cases Y with
     | ok v m =>
      obtain ⟨h1,h2,h3,h4⟩:=HRL.out
      exact ⟨rfl,rfl,rfl,h1,by omega,h4⟩
     | bad k c =>
      obtain ⟨h1,h2,h3,h4⟩:=HRL.out
      exact ⟨by omega,h4⟩
   | false =>
    have HTE:=Lib.hid hte
    have H64:=Lib.hid h64
    obtain ⟨Y,hY⟩:∃ Y,Hid (qnumber (s.data.toList.drop p)=Y):=⟨_,rfl⟩
    have HV:Hid (V=pnT Y):=by
     show _=_
     rw [← hV.out,← hY.out];unfold qpred;rw [if_neg (by rw [h64];decide),if_neg (by rw [hla];decide),if_neg (by rw [hte];decide)]
     cases qnumber (s.data.toList.drop p) <;> rfl
    clear h64 hla hte
    go_enter Tryz.func135,Tryz.ntmps135
    go_wp2_with fail;obtain ⟨W1,hW1⟩:∃ W1,Hid (W1=w.alloc (.cells zeroPt 191)):=⟨_,rfl⟩
    change Calls _ _ _ (w.alloc (.cells zeroPt 191)) _
    rw [← hW1.out];have hb1:Below w.heap.size w W1:=by rw [hW1.out];exact (Below.refl _ w).alloc (Nat.le_refl _) _
    have HT1:Hid (W1.heap[w.heap.size]? = some (.cells zeroPt 191 (0,0))):=by show _=_;rw [hW1.out];exact heap_alloc_new w _
    have HB1:=Lib.hid hb1
    clear hb1;refine (zAn s p tLast W1 hp hs (by decide) false HLA.out).mono ?_
    rintro e w2 ⟨rfl,hb2⟩;have HT2:=Lib.hid (zAB hb2 HT1.out)
    have HB2:=Lib.hid (HB1.out.trans (hb2.mono HB1.out.size))
    clear hb2
    go_wp2_with fail;refine (zAn s p tText w2 hp hs (by decide) false HTE.out).mono ?_
    rintro e w3 ⟨rfl,hb3⟩;have HT3:=Lib.hid (zAB hb3 HT2.out)
    have HB3:=Lib.hid (HB2.out.trans (hb3.mono HB2.out.size))
    clear hb3
    go_wp2_with fail;refine (zAn s p [64] w3 hp hs (by decide) false H64.out).mono ?_
    rintro e w4 ⟨rfl,hb4⟩;have HT4:=Lib.hid (zAB hb4 HT3.out)
    have HB4:=Lib.hid (HB3.out.trans (hb4.mono HB3.out.size))
    clear hb4
    go_wp2_with fail;refine (zMA s p w4 hp hs Y hY).mono ?_
    rintro e w5 ⟨hb5,hrel⟩;have HT5:=Lib.hid (zAB hb5 HT4.out)
    have HB5:=Lib.hid (HB4.out.trans (hb5.mono HB4.out.size))
    clear hb5;cases Y with
    | ok v m =>
     subst hrel
     go_wp2_with (refine wpList_store_row rfl 191 (.tmp 4) (.tmp 40) rfl w.heap.size (partC 1 v [] [] ((p+m:Nat):Int) 0 0) rfl rfl 191 zeroPt HT5.out (by kernel_rfl) rfl (zAW _ _ _ _ _ _ _) ?_)
     try simp only [Exit.inBlock,Exit.then]
     refine bodyPost_ret (results_cell_row Tryz.results135 _ _ w.heap.size 191 (partC 1 v [] [] ((p+m:Nat):Int) 0 0) (0,0) _ rfl (setRow_heap _ _ _ _ _ _ HT5.out) Tryz.underlying191 rfl (by kernel_rfl)) rfl ?_
     unfold PPost;refine ⟨_,_,_,_,_,_,_,rfl,?_,zAE HB5.out (Nat.le_refl _) _⟩
     rw [HV.out];exact ⟨rfl,rfl,rfl,rfl,rfl,rfl⟩
    | bad k c =>
     subst hrel
     go_wp2_with (refine wpList_store_row rfl 191 (.tmp 4) (.tmp 40) rfl w.heap.size (partC 0 0 [] [] 0 ((p+k:Nat):Int) c) rfl rfl 191 zeroPt HT5.out (by kernel_rfl) rfl (zAW _ _ _ _ _ _ _) ?_)
     try simp only [Exit.inBlock,Exit.then]
     refine bodyPost_ret (results_cell_row Tryz.results135 _ _ w.heap.size 191 (partC 0 0 [] [] 0 ((p+k:Nat):Int) c) (0,0) _ rfl (setRow_heap _ _ _ _ _ _ HT5.out) Tryz.underlying191 rfl (by kernel_rfl)) rfl ?_
     unfold PPost;refine ⟨_,_,_,_,_,_,_,rfl,?_,zAE HB5.out (Nat.le_refl _) _⟩
     rw [HV.out];exact ⟨rfl,rfl⟩
 | true =>
  obtain ⟨tl,htl⟩:=zDk h64
  have hla:pre tLast (s.data.toList.drop p)=false:=by rw [htl];rfl
  have hte:pre tText (s.data.toList.drop p)=false:=by rw [htl];rfl
  have hp1:p+1≤s.size:=by
   have:=congrArg List.length htl
   rw [List.length_drop,HL.out] at this;simp at this;omega
  have q1:(p:Int)+1≤s.size:=by omega
  obtain ⟨n1,hn1⟩:∃ n1,Hid (partN (s.data.toList.drop (p+1))=n1):=⟨_,rfl⟩
  obtain ⟨k,hk⟩:∃ k,Hid (p+1+n1=k):=⟨_,rfl⟩
  have hnl:k≤s.size:=by
   have:=zCB (s.data.toList.drop (p+1))
   rw [hn1.out,List.length_drop,HL.out] at this;have:=hk.out;omega
  obtain ⟨nm,hnm⟩:∃ nm,Hid ((s.data.toList.drop (p+1)).take n1=nm):=⟨_,rfl⟩
  have hext:Hid (s.extract (p+1) k=⟨nm.toArray⟩):=by
   show _=_
   rw [zFN (s.extract (p+1) k),Lib.extract_data,← hnm.out,show k-(p+1)=n1 by have:=hk.out;omega]
  have hnml:nm.length≤1000000000:=by rw [← hnm.out,List.length_take,List.length_drop,HL.out];omega
  have i2:(p:Int)+1≤k:=by have:=hk.out;omega
  have i3:(k:Int)≤s.size:=by omega
  obtain ⟨bn,hbn⟩:∃ b,Hid (nameL nm=b):=⟨_,rfl⟩
  have hqn:Hid (qname (s.data.toList.drop (p+1))=if bn=false then .bad 0 70 else .ok nm n1):=by show _=_;unfold qname;rw [hn1.out,hnm.out,hbn.out]
  have HQV:Hid (V=(qattr (s.data.toList.drop (p+1))).past 1):=by
   show _=_
   rw [← hV.out];unfold qpred;rw [if_pos h64,List.drop_drop]
  have HLA:=Lib.hid hla
  have HTE:=Lib.hid hte
  have H64:=Lib.hid h64
  have HNM:=Lib.hid hnml
  clear hV h64 hla hte htl hnml
  go_enter Tryz.func135,Tryz.ntmps135
  go_wp2_with fail;obtain ⟨W1,hW1⟩:∃ W1,Hid (W1=w.alloc (.cells zeroPt 191)):=⟨_,rfl⟩
  change Calls _ _ _ (w.alloc (.cells zeroPt 191)) _
  rw [← hW1.out];have hb1:Below w.heap.size w W1:=by rw [hW1.out];exact (Below.refl _ w).alloc (Nat.le_refl _) _
  have HT1:Hid (W1.heap[w.heap.size]? = some (.cells zeroPt 191 (0,0))):=by show _=_;rw [hW1.out];exact heap_alloc_new w _
  have HB1:=Lib.hid hb1
  clear hb1;refine (zAn s p tLast W1 hp hs (by decide) false HLA.out).mono ?_
  rintro e w2 ⟨rfl,hb2⟩;have HT2:=Lib.hid (zAB hb2 HT1.out)
  have HB2:=Lib.hid (HB1.out.trans (hb2.mono HB1.out.size))
  clear hb2
  go_wp2_with fail;refine (zAn s p tText w2 hp hs (by decide) false HTE.out).mono ?_
  rintro e w3 ⟨rfl,hb3⟩;have HT3:=Lib.hid (zAB hb3 HT2.out)
  have HB3:=Lib.hid (HB2.out.trans (hb3.mono HB2.out.size))
  clear hb3
  go_wp2_with fail;refine (zAn s p [64] w3 hp hs (by decide) true H64.out).mono ?_
  rintro e w4 ⟨rfl,hb4⟩;have HT4:=Lib.hid (zAB hb4 HT3.out)
  have HB4:=Lib.hid (HB3.out.trans (hb4.mono HB3.out.size))
  clear hb4
  go_wp2_with fail;refine (zJr s (p+1) _ w4 hp1 hs k (by show _=_;rw [hn1.out];exact hk.out) (by omega)).mono ?_
  rintro e w5 ⟨rfl,hb5⟩;have HT5:=Lib.hid (zAB hb5 HT4.out)
  have HB5:=Lib.hid (HB4.out.trans (hb5.mono HB4.out.size))
  clear hb5
  go_upto_region 13 with (fail)
  rw [hext.out]
  go_wp2_with fail;refine (zCj ⟨nm.toArray⟩ w5 (by show nm.toArray.size≤_;have:=HNM.out;simp;omega) bn (by show nameL nm.toArray.toList=_;simpa using hbn.out)).mono ?_
  rintro e w6 ⟨rfl,hb6⟩;have HT6:=Lib.hid (zAB hb6 HT5.out)
  have HB6:=Lib.hid (HB5.out.trans (hb6.mono HB5.out.size))
  clear hb6 HT1 HT2 HT3 HT4 HB1 HB2 HB3 HB4;cases bn with
  | false =>
   have HV:Hid (V=.bad 1 70):=by
    show _=_
    rw [HQV.out];unfold qattr;rw [hqn.out,if_pos rfl];rfl
   go_wp2_with fail;refine (zBh _ 70 w6).mono ?_
   rintro e w7 ⟨rfl,hb7⟩;have HT7:=Lib.hid (zAB hb7 HT6.out)
   have HB7:=Lib.hid (HB6.out.trans (hb7.mono HB6.out.size))
   clear hb7
   go_wp2_with (refine wpList_store_row rfl 191 (.tmp 4) (.tmp 55) rfl w.heap.size (partC 0 0 [] [] 0 ((p:Int)+1) 70) rfl rfl 191 zeroPt HT7.out (by kernel_rfl) rfl (zAW _ _ _ _ _ _ _) ?_)
   try simp only [Exit.inBlock,Exit.then]
   refine bodyPost_ret (results_cell_row Tryz.results135 _ _ w.heap.size 191 (partC 0 0 [] [] 0 ((p:Int)+1) 70) (0,0) _ rfl (setRow_heap _ _ _ _ _ _ HT7.out) Tryz.underlying191 rfl (by kernel_rfl)) rfl ?_
   unfold PPost;refine ⟨_,_,_,_,_,_,_,rfl,?_,zAE HB7.out (Nat.le_refl _) _⟩
   rw [HV.out];exact ⟨by omega,rfl⟩
  | true =>
   cases heq:pre [61] (s.data.toList.drop k) with
   | false =>
    have HEQ:=Lib.hid heq
    have HV:Hid (V=.ok ⟨3,0,nm,[]⟩ (1+n1)):=by
     show _=_
     rw [HQV.out];unfold qattr;rw [hqn.out,if_neg (by decide)]
     simp only
     rw [List.drop_drop,show p+1+n1=k from hk.out,if_pos heq]
     rfl
    clear heq
    go_wp2_with fail;refine (zAn s k [61] w6 hnl hs (by decide) false HEQ.out).mono ?_
    rintro e w7 ⟨rfl,hb7⟩;have HT7:=Lib.hid (zAB hb7 HT6.out)
    have HB7:=Lib.hid (HB6.out.trans (hb7.mono HB6.out.size))
    clear hb7
    go_wp2_with (refine wpList_store_row rfl 191 (.tmp 4) (.tmp 63) rfl w.heap.size (partC 3 0 nm [] (k:Int) 0 0) rfl rfl 191 zeroPt HT7.out (by kernel_rfl) rfl (zAW _ _ _ _ _ _ _) ?_)
    try simp only [Exit.inBlock,Exit.then]
    refine bodyPost_ret (results_cell_row Tryz.results135 _ _ w.heap.size 191 (partC 3 0 nm [] (k:Int) 0 0) (0,0) _ rfl (setRow_heap _ _ _ _ _ _ HT7.out) Tryz.underlying191 rfl (by kernel_rfl)) rfl ?_
    unfold PPost;refine ⟨_,_,_,_,_,_,_,rfl,?_,zAE HB7.out (Nat.le_refl _) _⟩
    rw [HV.out];exact ⟨rfl,rfl,rfl,rfl,by have:=hk.out;omega,rfl⟩
   | true =>
    have hk1:k+1≤s.size:=by
     have:=zAU heq
     rw [List.length_drop,HL.out] at this;simp at this;omega
    have q2:(k:Int)+1≤s.size:=by omega
    have HEQ:=Lib.hid heq
    obtain ⟨Y,hY⟩:∃ Y,Hid (qvalue (s.data.toList.drop (k+1))=Y):=⟨_,rfl⟩
    have HV:Hid (V=paT nm n1 Y):=by
     show _=_
     rw [HQV.out,← hY.out];unfold qattr;rw [hqn.out,if_neg (by decide)]
     simp only
     rw [List.drop_drop,show p+1+n1=k from hk.out,if_neg (by rw [heq];decide),List.drop_drop,show p+1+(n1+1)=k+1 by have:=hk.out;omega]
     cases qvalue (s.data.toList.drop (k+1)) <;> rfl
    clear heq
    go_wp2_with fail;refine (zAn s k [61] w6 hnl hs (by decide) true HEQ.out).mono ?_
    rintro e w7 ⟨rfl,hb7⟩;have HTa:=Lib.hid (zAB hb7 HT6.out)
    have HBa:=Lib.hid (HB6.out.trans (hb7.mono HB6.out.size))
    clear hb7 HT5 HT6 HB5 HB6
    go_wp2_with fail;refine (zKP s (k+1) _ _ hk1 hs Y hY (by omega)).mono ?_
    rintro e v3 ⟨vv,va,vb,vc,rfl,hrel,hv3⟩;have HRL:=Lib.hid hrel
    have HT3:=Lib.hid (zAB hv3 HTa.out)
    have HB3:=Lib.hid (HBa.out.trans (hv3.mono HBa.out.size))
    clear hv3 hrel;unfold partC
    go_upto_region 18 with (fail)
    obtain ⟨v4,hv4⟩:∃ v4,Hid (v3.alloc (.cells (partC 0 0 [] vv va vb vc) 191)=v4):=⟨_,rfl⟩
    have hv4':=hv4.out
    unfold partC at hv4';rw [hv4'];have HB4:Hid (Below v3.heap.size v3 v4):=by show Below _ _ _;rw [← hv4.out];exact (Below.refl _ v3).alloc (Nat.le_refl _) _
    have HX4:Hid (v4.heap[v3.heap.size]? = some (.cells (partC 0 0 [] vv va vb vc) 191 (0,0))):=by show _=_;rw [← hv4.out];exact heap_alloc_new v3 _
    clear hv4';have fr:=zAV HX4.out 0
    have fc:=zAA HX4.out 0 _ rfl
    go_upto_region 19 with (fail)
    have HX5:Hid ((v4.setCell ⟨v3.heap.size,0,none⟩ (.int .i64 4)).heap[v3.heap.size]? = some (.cells (partC 4 0 [] vv va vb vc) 191 (0,0))):=Lib.heap_setCell_same (i:=0) HX4.out _
    have hne:=(Array.getElem?_eq_some_iff.1 HT3.out).1
    have HT5:Hid ((v4.setCell ⟨v3.heap.size,0,none⟩ (.int .i64 4)).heap[w.heap.size]? = some (.cells zeroPt 191 (0,0))):=by
     show _=_
     rw [Below.heap_setCell _ _ _ _ (show w.heap.size≠v3.heap.size from by omega)]
     exact zAB HB4.out HT3.out
    have HB5:Hid (Below w.heap.size w (v4.setCell ⟨v3.heap.size,0,none⟩ (.int .i64 4))):=(HB3.out.trans (HB4.out.mono HB3.out.size)).setCell HB3.out.size _
    obtain ⟨v5,hv5⟩:∃ v5,Hid (v4.setCell ⟨v3.heap.size,0,none⟩ (.int .i64 4)=v5):=⟨_,rfl⟩
    rw [hv5.out] at HX5 HT5 HB5 ⊢;clear fr fc;have fr:=zAV HX5.out 2
    have fc:=zAA HX5.out 2 _ rfl
    go_upto_region 20 with (fail)
    have HX6:Hid ((v5.setCell ⟨v3.heap.size,2,none⟩ (.string ⟨nm.toArray⟩)).heap[v3.heap.size]? = some (.cells (partC 4 0 nm vv va vb vc) 191 (0,0))):=Lib.heap_setCell_same (i:=2) HX5.out _
    have HT6:Hid ((v5.setCell ⟨v3.heap.size,2,none⟩ (.string ⟨nm.toArray⟩)).heap[w.heap.size]? = some (.cells zeroPt 191 (0,0))):=by
     show _=_
     rw [Below.heap_setCell _ _ _ _ (show w.heap.size≠v3.heap.size from by omega)]
     exact HT5.out
    have HB6:Hid (Below w.heap.size w (v5.setCell ⟨v3.heap.size,2,none⟩ (.string ⟨nm.toArray⟩))):=HB5.out.setCell HB3.out.size _
    obtain ⟨v6,hv6⟩:∃ v6,Hid (v5.setCell ⟨v3.heap.size,2,none⟩ (.string ⟨nm.toArray⟩)=v6):=⟨_,rfl⟩
    rw [hv6.out] at HX6 HT6 HB6 ⊢;clear fr fc hne;have c0:=zAA HX6.out 0 _ rfl
    have c1:=zAA HX6.out 1 _ rfl
    have c2:=zAA HX6.out 2 _ rfl
    have c3:=zAA HX6.out 3 _ rfl
    have c4:=zAA HX6.out 4 _ rfl
    have c5:=zAA HX6.out 5 _ rfl
    have c6:=zAA HX6.out 6 _ rfl
    go_wp2_with (refine wpList_store_row rfl 191 (.tmp 4) (.tmp 73) rfl w.heap.size (partC 4 0 nm vv va vb vc) rfl rfl 191 zeroPt HT6.out (by kernel_rfl) rfl (zAW _ _ _ _ _ _ _) ?_)
    try simp only [Exit.inBlock,Exit.then]
    refine bodyPost_ret (results_cell_row Tryz.results135 _ _ w.heap.size 191 (partC 4 0 nm vv va vb vc) (0,0) _ rfl (setRow_heap _ _ _ _ _ _ HT6.out) Tryz.underlying191 rfl (by kernel_rfl)) rfl ?_
    unfold PPost;refine ⟨_,_,_,_,_,_,_,rfl,?_,zAE HB6.out (Nat.le_refl _) _⟩
    rw [HV.out];cases Y with
    | ok v m =>
     obtain ⟨h1,h2,h3,h4⟩:=HRL.out
     exact ⟨rfl,rfl,rfl,h1,by have:=hk.out;omega,h4⟩
    | bad j c =>
     obtain ⟨h1,h2,h3,h4⟩:=HRL.out
     exact ⟨by have:=hk.out;omega,h4⟩
end
section
def sT (axis test:Int):StepD:=⟨axis,test,[],[]⟩
section
variable {f:Fo} {next:Int}
def reachW (f:Fo) (G:Int→Bool) (axis y:Int):Bool:=(0 :: f.ids).any fun id=>G id && decide (y∈axisW f axis id)
end
end
section
open Go.RowKit Go.Shelf
section
variable {M:Nat→Prop} {t:Nat} {f:Fo} {next:Int}
end
end
section
open Go.RowKit Go.Shelf
end
section
def sC:StepD:=⟨1,4,[],[]⟩
def sA (a:Int) (x:StepD):StepD:=⟨a,x.test,x.name,[]⟩
section
variable {f:Fo} {next:Int}
def metW (f:Fo) (x:StepD) (k:Nat):Nat:=(f.ids.filter fun y=>testW x (entW f y).d && decide ((ancW f y).length≤k)).length
end
end
end Go.Proofs.YtcombcoilpmnkaaGreat

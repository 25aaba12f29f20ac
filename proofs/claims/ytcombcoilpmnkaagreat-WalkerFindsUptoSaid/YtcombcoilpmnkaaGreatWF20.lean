/-
  Texts of this claim, joined (by a program of the claim's author): RRefer, RUndo, R7a, R7b, R7c.
-/
import Derived.Test.YtcombcoilpmnkaaGreatWF19
import Derived.RegionTactic
import Derived.ChangeAlike
import Derived.Test.YtcombcoilpmnkaaGreatWF13
import Derived.Test.YtcombcoilpmnkaaGreatWF1
import Derived.Test.YtcombcoilpmnkaaGreatWF8
import Derived.Test.YtcombcoilpmnkaaGreatWF16
namespace Go.Proofs.YtcombcoilpmnkaaGreat
set_option maxRecDepth 100000
set_option maxHeartbeats 16000000
section
open Go.RowKit
theorem zLI (s:ByteArray) (w:World) (hs:s.size≤maxLen) (h0:pre [38,97,109,112,59] s.data.toList=true) :
  Calls Tryz.prog 154 #[.string s] w (Ret w (.tuple #[.int .i64 38,.int .i64 5])):=by
 go_enter Tryz.func154,Tryz.ntmps154
 go_wp2_with fail;refine wp_loop_rounds 6 ?_
 rw [rounds_succ]
 go_wp2_with (go_at_call 156;refine (zAP s _ _ hs (by decide)).mono ?_;rintro e w' ⟨rfl,rfl⟩)
 go_region
 all_goals (try go_wp2_with fail)
 all_goals go_ret2
 all_goals exact ⟨rfl,(((Below.refl _ _).alloc (Nat.le_refl _) _).alloc (by simp) _).drew⟩
theorem zLJ (s:ByteArray) (w:World) (hs:s.size≤maxLen) (h0:pre [38,97,109,112,59] s.data.toList=false) (h1:pre [38,108,116,59] s.data.toList=true) :
  Calls Tryz.prog 154 #[.string s] w (Ret w (.tuple #[.int .i64 60,.int .i64 4])):=by
 go_enter Tryz.func154,Tryz.ntmps154
 go_wp2_with fail;refine wp_loop_rounds 6 ?_
 rw [rounds_succ]
 go_wp2_with (go_at_call 156;refine (zAP s _ _ hs (by decide)).mono ?_;rintro e w' ⟨rfl,rfl⟩)
 rw [rounds_succ]
 go_wp2_with (go_at_call 156;refine (zAP s _ _ hs (by decide)).mono ?_;rintro e w' ⟨rfl,rfl⟩)
 go_region
 all_goals (try go_wp2_with fail)
 all_goals go_ret2
 all_goals exact ⟨rfl,(((Below.refl _ _).alloc (Nat.le_refl _) _).alloc (by simp) _).drew⟩
theorem zLK (s:ByteArray) (w:World) (hs:s.size≤maxLen) (h0:pre [38,97,109,112,59] s.data.toList=false) (h1:pre [38,108,116,59] s.data.toList=false) (h2:pre [38,103,116,59] s.data.toList=true) :
  Calls Tryz.prog 154 #[.string s] w (Ret w (.tuple #[.int .i64 62,.int .i64 4])):=by
 go_enter Tryz.func154,Tryz.ntmps154
 go_wp2_with fail;refine wp_loop_rounds 6 ?_
 rw [rounds_succ]
 go_wp2_with (go_at_call 156;refine (zAP s _ _ hs (by decide)).mono ?_;rintro e w' ⟨rfl,rfl⟩)
 rw [rounds_succ]
 go_wp2_with (go_at_call 156;refine (zAP s _ _ hs (by decide)).mono ?_;rintro e w' ⟨rfl,rfl⟩)
 rw [rounds_succ]
 go_wp2_with (go_at_call 156;refine (zAP s _ _ hs (by decide)).mono ?_;rintro e w' ⟨rfl,rfl⟩)
 go_region
 all_goals (try go_wp2_with fail)
 all_goals go_ret2
 all_goals exact ⟨rfl,(((Below.refl _ _).alloc (Nat.le_refl _) _).alloc (by simp) _).drew⟩
theorem zLL (s:ByteArray) (w:World) (hs:s.size≤maxLen) (h0:pre [38,97,109,112,59] s.data.toList=false) (h1:pre [38,108,116,59] s.data.toList=false) (h2:pre [38,103,116,59] s.data.toList=false) (h3:pre [38,113,117,111,116,59] s.data.toList=true) :
  Calls Tryz.prog 154 #[.string s] w (Ret w (.tuple #[.int .i64 34,.int .i64 6])):=by
 go_enter Tryz.func154,Tryz.ntmps154
 go_wp2_with fail;refine wp_loop_rounds 6 ?_
 rw [rounds_succ]
 go_wp2_with (go_at_call 156;refine (zAP s _ _ hs (by decide)).mono ?_;rintro e w' ⟨rfl,rfl⟩)
 rw [rounds_succ]
 go_wp2_with (go_at_call 156;refine (zAP s _ _ hs (by decide)).mono ?_;rintro e w' ⟨rfl,rfl⟩)
 rw [rounds_succ]
 go_wp2_with (go_at_call 156;refine (zAP s _ _ hs (by decide)).mono ?_;rintro e w' ⟨rfl,rfl⟩)
 rw [rounds_succ]
 go_wp2_with (go_at_call 156;refine (zAP s _ _ hs (by decide)).mono ?_;rintro e w' ⟨rfl,rfl⟩)
 go_region
 all_goals (try go_wp2_with fail)
 all_goals go_ret2
 all_goals exact ⟨rfl,(((Below.refl _ _).alloc (Nat.le_refl _) _).alloc (by simp) _).drew⟩
theorem zLM (s:ByteArray) (w:World) (hs:s.size≤maxLen) (h0:pre [38,97,109,112,59] s.data.toList=false) (h1:pre [38,108,116,59] s.data.toList=false) (h2:pre [38,103,116,59] s.data.toList=false) (h3:pre [38,113,117,111,116,59] s.data.toList=false) (h4:pre [38,97,112,111,115,59] s.data.toList=true) :
  Calls Tryz.prog 154 #[.string s] w (Ret w (.tuple #[.int .i64 39,.int .i64 6])):=by
 go_enter Tryz.func154,Tryz.ntmps154
 go_wp2_with fail;refine wp_loop_rounds 6 ?_
 rw [rounds_succ]
 go_wp2_with (go_at_call 156;refine (zAP s _ _ hs (by decide)).mono ?_;rintro e w' ⟨rfl,rfl⟩)
 rw [rounds_succ]
 go_wp2_with (go_at_call 156;refine (zAP s _ _ hs (by decide)).mono ?_;rintro e w' ⟨rfl,rfl⟩)
 rw [rounds_succ]
 go_wp2_with (go_at_call 156;refine (zAP s _ _ hs (by decide)).mono ?_;rintro e w' ⟨rfl,rfl⟩)
 rw [rounds_succ]
 go_wp2_with (go_at_call 156;refine (zAP s _ _ hs (by decide)).mono ?_;rintro e w' ⟨rfl,rfl⟩)
 rw [rounds_succ]
 go_wp2_with (go_at_call 156;refine (zAP s _ _ hs (by decide)).mono ?_;rintro e w' ⟨rfl,rfl⟩)
 go_region
 all_goals (try go_wp2_with fail)
 all_goals go_ret2
 all_goals exact ⟨rfl,(((Below.refl _ _).alloc (Nat.le_refl _) _).alloc (by simp) _).drew⟩
theorem zIq (s:ByteArray) (w:World) (hs:s.size≤maxLen) (h0:pre [38,97,109,112,59] s.data.toList=false) (h1:pre [38,108,116,59] s.data.toList=false) (h2:pre [38,103,116,59] s.data.toList=false) (h3:pre [38,113,117,111,116,59] s.data.toList=false) (h4:pre [38,97,112,111,115,59] s.data.toList=false) (V:Int × Nat) (b5 b6:Bool) (h5:pre [38,35] s.data.toList=b5) (h6:pre [38,35,120] s.data.toList=b6)
  (hV:Hid (V=if endRf s.data.toList=s.data.toList.length∨endRf s.data.toList=12∨b5=false then (0,0) else
   if (if b6=true then numR 16 ((s.data.toList.take (endRf s.data.toList)).drop 3) else numR 10 ((s.data.toList.take (endRf s.data.toList)).drop 2))<0 then (0,0)
   else ((if b6=true then numR 16 ((s.data.toList.take (endRf s.data.toList)).drop 3) else numR 10 ((s.data.toList.take (endRf s.data.toList)).drop 2)),endRf s.data.toList+1))) :
  Calls Tryz.prog 154 #[.string s] w (Ret w (.tuple #[.int .i64 V.1,.int .i64 (V.2:Nat)])):=by
 have hs':=hs
 unfold maxLen at hs';have HL:=Lib.hid (zAH s)
 have hp2:Hid (b5=true→s.data.toList.take 2=[38,35]):=fun h=>by rw [h] at h5;exact eq_of_beq h5
 have hp3:Hid (b6=true→s.data.toList.take 3=[38,35,120]):=fun h=>by rw [h] at h6;exact eq_of_beq h6
 go_enter Tryz.func154,Tryz.ntmps154
 go_wp2_with fail;refine wp_loop_rounds 6 ?_
 rw [rounds_succ]
 go_wp2_with (go_at_call 156;refine (zAP s _ _ hs (by decide)).mono ?_;rintro e w' ⟨rfl,rfl⟩)
 rw [rounds_succ]
 go_wp2_with (go_at_call 156;refine (zAP s _ _ hs (by decide)).mono ?_;rintro e w' ⟨rfl,rfl⟩)
 rw [rounds_succ]
 go_wp2_with (go_at_call 156;refine (zAP s _ _ hs (by decide)).mono ?_;rintro e w' ⟨rfl,rfl⟩)
 rw [rounds_succ]
 go_wp2_with (go_at_call 156;refine (zAP s _ _ hs (by decide)).mono ?_;rintro e w' ⟨rfl,rfl⟩)
 rw [rounds_succ]
 go_wp2_with (go_at_call 156;refine (zAP s _ _ hs (by decide)).mono ?_;rintro e w' ⟨rfl,rfl⟩)
 rw [rounds_succ]
 go_wp2_with (go_at_call 156;refine (zAP s _ _ hs (by decide)).mono ?_;rintro e w' ⟨rfl,rfl⟩)
 go_loop [7] (fun i=>∃ k:Nat,k≤s.size∧k≤12∧i=.int .i64 k∧Hid ((s.data.toList.take k).takeWhile no59=s.data.toList.take k)) (fun i=>s.size-(intOf i).toNat)
 case atStart=>exact ⟨0,Nat.zero_le _,Nat.zero_le _,rfl,rfl⟩
 case round =>
  obtain ⟨k,hk,hk12,rfl,htw⟩:=hrel
  have hend0:Hid (∀ rest:List UInt8,(rest.takeWhile no59=[])→s.data.toList.take 12=s.data.toList.take k++rest→endRf s.data.toList=k):=by
   intro rest hr he;unfold endRf;rw [he,List.takeWhile_append,if_pos (by rw [htw.out]),hr,List.append_nil,List.length_take]
   have:=HL.out;omega
  by_cases hA:s.size≤k
  ·have he:Hid (endRf s.data.toList=k):=by
    refine hend0.out [] rfl ?_
    have:=HL.out
    rw [List.append_nil,List.take_of_length_le (by omega),List.take_of_length_le (by omega)]
   have hv:Hid (V=(0,0)):=by
    show _=_
    rw [hV.out,if_pos (.inl (by rw [he.out,HL.out];omega))]
   have hke:k=s.size:=by omega
   have h1:((k:Int) == (s.size:Int))=true:=by rw [hke];simp
   have h1':(k == s.size)=true:=by rw [hke];simp
   clear hke
   go_wp2_with fail
   go_ret2;exact ⟨by rw [hv.out];rfl,((Below.refl _ _).alloc (Nat.le_refl _) _).alloc (by simp) _⟩
  by_cases hB:12≤k
  ·have he:Hid (endRf s.data.toList=k):=by
    refine hend0.out [] rfl ?_
    rw [List.append_nil];congr 1;omega
   have hv:Hid (V=(0,0)):=by
    show _=_
    rw [hV.out,if_pos (.inr (.inl (by rw [he.out];omega)))]
   have h0:((k:Int) == (s.size:Int))=false:=by simp;omega
   have h0':(k == s.size)=false:=by simp;omega
   have hk12':((k:Int) == 12)=true:=by simp;omega
   have hks:k<s.size:=by omega
   clear hA
   go_wp2_with fail
   go_ret2;exact ⟨by rw [hv.out];rfl,((Below.refl _ _).alloc (Nat.le_refl _) _).alloc (by simp) _⟩
  have hks:k<s.size:=by omega
  have hkl:k<12:=by omega
  have h0:((k:Int) == (s.size:Int))=false:=by simp;omega
  have h0':(k == s.size)=false:=by simp;omega
  have hk12':((k:Int) == 12)=false:=by simp;omega
  obtain ⟨x,HX⟩:∃ x,Hid (s.data.toList[k]? = some x):=⟨s.data.toList[k]'(by have:=HL.out;omega),List.getElem?_eq_getElem _⟩
  have hsx:s[k]=x:=zAv s k x HX.out hks
  have hdr:Hid (s.data.toList.drop k=x :: s.data.toList.drop (k+1)):=by
   have hj':k<s.data.toList.length:=by have:=HL.out;omega
   have hg:=HX.out
   rw [List.getElem?_eq_getElem hj'] at hg;show _=_
   rw [List.drop_eq_getElem_cons hj',Option.some.inj hg]
  clear hA hB;by_cases h59:x=59
  ·have he:Hid (endRf s.data.toList=k):=by
    refine hend0.out ((s.data.toList.drop k).take (12-k)) ?_ ?_
    ·rw [hdr.out,h59]
     obtain ⟨m,hm⟩:∃ m,12-k=m+1:=⟨11-k,by omega⟩
     rw [hm,List.take_succ_cons];simp [List.takeWhile,no59]
    ·have:(12:Nat)=k+(12-k):=by omega
     conv=>lhs;rw [this]
     rw [List.take_add]
   have hx59:((x.toNat:Int) != 59)=false:=by rw [h59];rfl
   have hx59':((x.toNat:Int) == 59)=true:=by rw [h59];rfl
   have h59':Hid (s.data.toList[k]? = some 59):=by have:=HX.out;rw [h59] at this;exact this
   clear h59;cases hb5:b5
   ·subst hb5
    have hv:Hid (V=(0,0)):=by
     show _=_
     rw [hV.out,if_pos (.inr (.inr rfl))]
    go_wp2_with (go_at_call 156;refine (zAP s _ _ hs (by decide)).mono ?_;rintro e w' ⟨rfl,rfl⟩)
    go_ret2;exact ⟨by rw [hv.out];rfl,((Below.refl _ _).alloc (Nat.le_refl _) _).alloc (by simp) _⟩
   ·subst hb5
    have hk2:2≤k:=by
     have h2:=hp2.out rfl
     have h59:=h59'.out
     rcases (by omega:k=0∨k=1∨2≤k) with rfl | rfl | h
     ·have:(s.data.toList.take 2)[0]? = some 59:=by rw [List.getElem?_take];simpa using h59
      rw [h2] at this;simp at this
     ·have:(s.data.toList.take 2)[1]? = some 59:=by rw [List.getElem?_take];simpa using h59
      rw [h2] at this;simp at this
     ·exact h
    have hx2:Hid ((s.extract 2 k).data.toList=(s.data.toList.take k).drop 2):=by
     show _=_;rw [Lib.extract_data,List.drop_take]
    have hxz2:(s.extract 2 k).size≤12:=by simp;omega
    obtain ⟨n1,hn1⟩:∃ n,Hid (n=numR 10 (s.extract 2 k).data.toList):=⟨_,rfl⟩
    cases hb6:b6
    ·subst hb6
     have hv0:Hid (V=if n1<0 then (0,0) else (n1,k+1)):=by
      show _=_
      rw [hV.out,if_neg (by rw [he.out,HL.out];simp;omega),he.out,hn1.out,hx2.out];rfl
     by_cases hneg:n1<0
     ·have hv:Hid (V=(0,0)):=by show _=_;rw [hv0.out,if_pos hneg]
      go_wp2_with (first | (go_at_call 156;refine (zAP s _ _ hs (by decide)).mono ?_;rintro e w' ⟨rfl,rfl⟩) | (go_at_call 157;refine (zC0 _ _ hxz2 n1 hn1).mono ?_;rintro e w' ⟨rfl,rfl⟩))
      go_ret2;exact ⟨by rw [hv.out];rfl,((Below.refl _ _).alloc (Nat.le_refl _) _).alloc (by simp) _⟩
     ·have hv:Hid (V=(n1,k+1)):=by show _=_;rw [hv0.out,if_neg hneg]
      go_wp2_with (first | (go_at_call 156;refine (zAP s _ _ hs (by decide)).mono ?_;rintro e w' ⟨rfl,rfl⟩) | (go_at_call 157;refine (zC0 _ _ hxz2 n1 hn1).mono ?_;rintro e w' ⟨rfl,rfl⟩))
      go_ret2;exact ⟨by rw [hv.out];rfl,((Below.refl _ _).alloc (Nat.le_refl _) _).alloc (by simp) _⟩
    ·subst hb6
     have hk3:3≤k:=by
      have h3:=hp3.out rfl
      have h59:=h59'.out
      rcases (by omega:k=2∨3≤k) with rfl | h
      ·have:(s.data.toList.take 3)[2]? = some 59:=by rw [List.getElem?_take];simpa using h59
       rw [h3] at this;simp at this
      ·exact h
     have hx3:Hid ((s.extract 3 k).data.toList=(s.data.toList.take k).drop 3):=by
      show _=_;rw [Lib.extract_data,List.drop_take]
     have hxz3:(s.extract 3 k).size≤12:=by simp;omega
     obtain ⟨n2,hn2⟩:∃ n,Hid (n=numR 16 (s.extract 3 k).data.toList):=⟨_,rfl⟩
     have hv0:Hid (V=if n2<0 then (0,0) else (n2,k+1)):=by
      show _=_
      rw [hV.out,if_neg (by rw [he.out,HL.out];simp;omega),he.out,hn2.out,hx3.out];rfl
     by_cases hneg:n2<0
     ·have hv:Hid (V=(0,0)):=by show _=_;rw [hv0.out,if_pos hneg]
      go_wp2_with (first | (go_at_call 156;refine (zAP s _ _ hs (by decide)).mono ?_;rintro e w' ⟨rfl,rfl⟩) | (go_at_call 157;first | ((with_reducible refine (zC0 _ _ hxz2 n1 hn1).mono ?_);rintro e w' ⟨rfl,rfl⟩) | ((with_reducible refine (zGZ _ _ hxz3 n2 hn2).mono ?_);rintro e w' ⟨rfl,rfl⟩)))
      go_ret2;exact ⟨by rw [hv.out];rfl,((Below.refl _ _).alloc (Nat.le_refl _) _).alloc (by simp) _⟩
     ·have hv:Hid (V=(n2,k+1)):=by show _=_;rw [hv0.out,if_neg hneg]
      go_wp2_with (first | (go_at_call 156;refine (zAP s _ _ hs (by decide)).mono ?_;rintro e w' ⟨rfl,rfl⟩) | (go_at_call 157;first | ((with_reducible refine (zC0 _ _ hxz2 n1 hn1).mono ?_);rintro e w' ⟨rfl,rfl⟩) | ((with_reducible refine (zGZ _ _ hxz3 n2 hn2).mono ?_);rintro e w' ⟨rfl,rfl⟩)))
      go_ret2;exact ⟨by rw [hv.out];rfl,((Below.refl _ _).alloc (Nat.le_refl _) _).alloc (by simp) _⟩
  ·have hxi:¬ (x.toNat:Int)=59:=fun h=>h59 (UInt8.toNat_inj.1 (by have:(59:UInt8).toNat=59:=rfl;omega))
   have hx59:((x.toNat:Int) != 59)=true:=by simp [hxi]
   have hx59':((x.toNat:Int) == 59)=false:=by simp [hxi]
   have H59:=Lib.hid h59
   clear h59 hxi
   go_wp2_with fail
   go_round
   case rel =>
    refine ⟨k+1,by omega,by omega,by go_num,?_⟩
    show _=_
    have hn:no59 x=true:=by unfold no59;simpa using H59.out
    rw [List.take_add_one,HX.out,List.takeWhile_append,if_pos (by rw [htw.out])]
    show _++[x].takeWhile no59=_
    rw [List.takeWhile_cons,if_pos hn];rfl
   case measure=>simp [intOf];omega
theorem zIp (s:ByteArray) (w:World) (hs:s.size≤maxLen) :
  Calls Tryz.prog 154 #[.string s] w (Ret w (.tuple #[.int .i64 (refL s.data.toList).1,.int .i64 ((refL s.data.toList).2:Nat)])):=by
 rw [← zMB];unfold refR;by_cases h0:pre [38,97,109,112,59] s.data.toList=true
 ·rw [if_pos h0];exact zLI s w hs h0
 by_cases h1:pre [38,108,116,59] s.data.toList=true
 ·rw [if_neg h0,if_pos h1];exact zLJ s w hs (by simpa using h0) h1
 by_cases h2:pre [38,103,116,59] s.data.toList=true
 ·rw [if_neg h0,if_neg h1,if_pos h2];exact zLK s w hs (by simpa using h0) (by simpa using h1) h2
 by_cases h3:pre [38,113,117,111,116,59] s.data.toList=true
 ·rw [if_neg h0,if_neg h1,if_neg h2,if_pos h3];exact zLL s w hs (by simpa using h0) (by simpa using h1) (by simpa using h2) h3
 by_cases h4:pre [38,97,112,111,115,59] s.data.toList=true
 ·rw [if_neg h0,if_neg h1,if_neg h2,if_neg h3,if_pos h4];exact zLM s w hs (by simpa using h0) (by simpa using h1) (by simpa using h2) (by simpa using h3) h4
 rw [if_neg h0,if_neg h1,if_neg h2,if_neg h3,if_neg h4];exact zIq s w hs (by simpa using h0) (by simpa using h1) (by simpa using h2) (by simpa using h3) (by simpa using h4) _ _ _ rfl rfl rfl
end
section
open Go.RowKit
theorem zBp (s:ByteArray) (w:World) (hs:s.size≤maxLen) (c:Int) (n:Nat) (h:Hid (refL s.data.toList=(c,n))) :
  Calls Tryz.prog 154 #[.string s] w (Ret w (.tuple #[.int .i64 c,.int .i64 (n:Nat)])):=by
 have:=zIp s w hs
 rw [h.out] at this;exact this
theorem zID (s:ByteArray) (w:World) (hs:s.size≤1000000000) (V:List UInt8 × Nat × Int) (hV:Hid (V=undoL true s.data.toList)) :
  Calls Tryz.prog 149 #[.string s,.bool true] w (Ret w (.tuple #[.string ⟨V.1.toArray⟩,.int .i64 (V.2.1:Nat),.int .i64 V.2.2])):=by
 go_enter Tryz.func149,Tryz.ntmps149
 go_wp2_with fail
 go_loopw [7,8] (fun ov av wr=>∃ (k:Nat) (acc:List UInt8),ov=.string ⟨acc.toArray⟩∧av=.int .i64 k∧k≤s.size∧Hid (V=joinU acc k (undoL true (s.data.toList.drop k)))∧acc.length≤4 * k∧Below w.heap.size w wr) (fun _ av _=>s.size-(intOf av).toNat)
 case atStart =>
  refine ⟨0,[],rfl,rfl,Nat.zero_le _,?_,by simp,Below.refl _ _⟩
  show _=_
  rw [hV.out,List.drop_zero,zCu _ (zBx _ _)]
 case round =>
  obtain ⟨k,acc,rfl,rfl,hks,hjo,hal,hbel⟩:=hrel
  have hwr:=hbel.size
  have HL:=Lib.hid (zAH s)
  by_cases hend:k<s.size
  ·have hx:Hid ((s.extract k s.size).data.toList=s.data.toList.drop k):=Lib.extract_to_end s k
   have hxs:(s.extract k s.size).size=s.size-k:=by simp
   have hnn:Hid (s.data.toList.drop k≠[]):=by
    intro h;have:=congrArg List.length h
    rw [List.length_drop,HL.out] at this;simp at this;omega
   have hszl:(s.extract k s.size).size≤1000000000:=by omega
   have HXS:=Lib.hid hxs
   clear hxs;obtain ⟨c,n,hq⟩:∃ c n,Hid (nextL (s.extract k s.size).data.toList=(c,n)):=⟨_,_,rfl⟩
   have hle:=zA2 (s.extract k s.size).data.toList
   rw [hq.out,hx.out,List.length_drop,HL.out] at hle;obtain ⟨hn1,hn4⟩:=hle
   simp only at hn1 hn4
   by_cases hn:n=0
   ·have hv:Hid (V=([],k,21)):=by
     have:=zDn (v:=true) hq.out hn
     rw [hx.out] at this;show _=_
     rw [hjo.out,zAL _ _ hnn.out _ this,zAM _ _ _ (by decide)]
    have hn0:((n:Int) == 0)=true:=by simp [hn]
    have hnz:n≤0:=by omega
    clear hn
    go_wp2_with (go_at_call 117;refine (zAc (s.extract k s.size) wr (by unfold maxLen;omega) c n hq).mono ?_;rintro e w2 ⟨rfl,hb2⟩)
    go_ret3;exact ⟨by rw [hv.out];rfl,hbel.trans (hb2.mono (by omega))⟩
   have hnp:0<n:=by omega
   have hn0:((n:Int) == 0)=false:=by simp [hn]
   clear hn;by_cases hc60:c=60
   ·subst hc60
    have hv:Hid (V=([],k,20)):=by
     have:=zBl (v:=true) hq.out hnp (.inl rfl)
     rw [hx.out] at this;show _=_
     rw [hjo.out,zAL _ _ hnn.out _ this,zAM _ _ _ (by decide)]
    go_wp2_with (go_at_call 117;refine (zAc (s.extract k s.size) wr (by unfold maxLen;omega) 60 n hq).mono ?_;rintro e w2 ⟨rfl,hb2⟩)
    go_ret3;exact ⟨by rw [hv.out];rfl,hbel.trans (hb2.mono (by omega))⟩
   by_cases hc62:c=62
   ·subst hc62
    have hv:Hid (V=([],k,20)):=by
     have:=zBl (v:=true) hq.out hnp (.inr rfl)
     rw [hx.out] at this;show _=_
     rw [hjo.out,zAL _ _ hnn.out _ this,zAM _ _ _ (by decide)]
    go_wp2_with (go_at_call 117;refine (zAc (s.extract k s.size) wr (by unfold maxLen;omega) 62 n hq).mono ?_;rintro e w2 ⟨rfl,hb2⟩)
    go_ret3;exact ⟨by rw [hv.out];rfl,hbel.trans (hb2.mono (by omega))⟩
   by_cases hc13:c=13
   ·subst hc13
    have hv:Hid (V=([],k,21)):=by
     have:=zBP (v:=true) hq.out (.inl rfl)
     rw [hx.out] at this;show _=_
     rw [hjo.out,zAL _ _ hnn.out _ this,zAM _ _ _ (by decide)]
    go_wp2_with (go_at_call 117;refine (zAc (s.extract k s.size) wr (by unfold maxLen;omega) 13 n hq).mono ?_;rintro e w2 ⟨rfl,hb2⟩)
    go_ret3;exact ⟨by rw [hv.out];rfl,hbel.trans (hb2.mono (by omega))⟩
   by_cases hc34:c=34
   ·subst hc34
    have hv:Hid (V=([],k,21)):=by
     have:=zBP (v:=true) hq.out (.inr ⟨rfl,.inl rfl⟩)
     rw [hx.out] at this;show _=_
     rw [hjo.out,zAL _ _ hnn.out _ this,zAM _ _ _ (by decide)]
    go_wp2_with (go_at_call 117;refine (zAc (s.extract k s.size) wr (by unfold maxLen;omega) 34 n hq).mono ?_;rintro e w2 ⟨rfl,hb2⟩)
    go_ret3;exact ⟨by rw [hv.out];rfl,hbel.trans (hb2.mono (by omega))⟩
   by_cases hc9:c=9
   ·subst hc9
    have hv:Hid (V=([],k,21)):=by
     have:=zBP (v:=true) hq.out (.inr ⟨rfl,.inr (.inl rfl)⟩)
     rw [hx.out] at this;show _=_
     rw [hjo.out,zAL _ _ hnn.out _ this,zAM _ _ _ (by decide)]
    go_wp2_with (go_at_call 117;refine (zAc (s.extract k s.size) wr (by unfold maxLen;omega) 9 n hq).mono ?_;rintro e w2 ⟨rfl,hb2⟩)
    go_ret3;exact ⟨by rw [hv.out];rfl,hbel.trans (hb2.mono (by omega))⟩
   by_cases hc10:c=10
   ·subst hc10
    have hv:Hid (V=([],k,21)):=by
     have:=zBP (v:=true) hq.out (.inr ⟨rfl,.inr (.inr rfl)⟩)
     rw [hx.out] at this;show _=_
     rw [hjo.out,zAL _ _ hnn.out _ this,zAM _ _ _ (by decide)]
    go_wp2_with (go_at_call 117;refine (zAc (s.extract k s.size) wr (by unfold maxLen;omega) 10 n hq).mono ?_;rintro e w2 ⟨rfl,hb2⟩)
    go_ret3;exact ⟨by rw [hv.out];rfl,hbel.trans (hb2.mono (by omega))⟩
   by_cases hc38:c=38
   ·subst hc38
    obtain ⟨c',n',hr⟩:∃ c' n',Hid (refL (s.extract k s.size).data.toList=(c',n')):=⟨_,_,rfl⟩
    have hrl:=zEO (s.extract k s.size).data.toList
    rw [hr.out,hx.out,List.length_drop,HL.out] at hrl;simp only at hrl
    have hrb:=zKB (s.extract k s.size).data.toList
    rw [hr.out] at hrb;obtain ⟨hrb0,hrb1⟩:=hrb
    simp only at hrb0 hrb1
    have hstep:=zDB (v:=true) hq.out hnp hr.out
    rw [hx.out] at hstep;by_cases hn':n'=0
    ·rw [if_pos hn'] at hstep
     have hv:Hid (V=([],k,20)):=by
      show _=_
      rw [hjo.out,zAL _ _ hnn.out _ hstep,zAM _ _ _ (by decide)]
     have hn0':((n':Int) == 0)=true:=by simp [hn']
     clear hn' hstep
     go_wp2_with (first | (go_at_call 117;refine (zAc (s.extract k s.size) wr (by unfold maxLen;omega) 38 n hq).mono ?_;rintro e w2 ⟨rfl,hb2⟩) | (go_at_call 154;refine (zBp (s.extract k s.size) _ (by unfold maxLen;omega) c' n' hr).mono ?_;rintro e w3 ⟨rfl,hb3⟩) | (go_at_call 129;refine (zAZ _ _).mono ?_;rintro e w4 ⟨rfl,hb4⟩))
     go_ret3;have hz2:=hb2.size
     exact ⟨by rw [hv.out];rfl,(hbel.trans (hb2.mono (by omega))).trans (hb3.mono (by omega))⟩
    rw [if_neg hn'] at hstep;have hn0':((n':Int) == 0)=false:=by simp [hn']
    have hnp':0<n':=by omega
    clear hn';by_cases hch:charB c'=false
    ·rw [if_pos hch] at hstep
     have hv:Hid (V=([],k,21)):=by
      show _=_
      rw [hjo.out,zAL _ _ hnn.out _ hstep,zAM _ _ _ (by decide)]
     clear hstep
     go_wp2_with (first | (go_at_call 117;refine (zAc (s.extract k s.size) wr (by unfold maxLen;omega) 38 n hq).mono ?_;rintro e w2 ⟨rfl,hb2⟩) | (go_at_call 154;refine (zBp (s.extract k s.size) _ (by unfold maxLen;omega) c' n' hr).mono ?_;rintro e w3 ⟨rfl,hb3⟩) | (go_at_call 129;refine (zAZ _ _).mono ?_;rintro e w4 ⟨rfl,hb4⟩))
     go_ret3;have hz2:=hb2.size;have hz3:=hb3.size
     exact ⟨by rw [hv.out];rfl,((hbel.trans (hb2.mono (by omega))).trans (hb3.mono (by omega))).trans (hb4.mono (by omega))⟩
    ·rw [if_neg hch] at hstep
     have hch':charB c'=true:=by simpa using hch
     have HS:=Lib.hid hstep
     have hpl:=zBZ c'
     clear hstep hch
     go_wp2_with (first | (go_at_call 117;refine (zAc (s.extract k s.size) wr (by unfold maxLen;omega) 38 n hq).mono ?_;rintro e w2 ⟨rfl,hb2⟩) | (go_at_call 154;refine (zBp (s.extract k s.size) _ (by unfold maxLen;omega) c' n' hr).mono ?_;rintro e w3 ⟨rfl,hb3⟩) | (go_at_call 129;refine (zAZ _ _).mono ?_;rintro e w4 ⟨rfl,hb4⟩))
     have hz2:=hb2.size;have hz4:=hb4.size;have hz3:=hb3.size
     go_roundw
     case rel =>
      refine ⟨k+n',acc++putF c',congrArg Value.string (zFp _ _),by go_num,by omega,?_,?_,((hbel.trans (hb2.mono (by omega))).trans (hb3.mono (by omega))).trans (hb4.mono (by omega))⟩
      ·show _=_
       rw [hjo.out,zA6 _ _ hnn.out _ _ HS.out,zBB,List.drop_drop]
      ·rw [List.length_append];omega
     case measure=>simp [intOf];omega
   have hstep:=zDA (v:=true) hq.out hnp (by omega) (by simp;omega) hc38
   rw [hx.out] at hstep;have hb60:(c == 60)=false:=by simp;omega
   have hb62:(c == 62)=false:=by simp;omega
   have hb13:(c == 13)=false:=by simp;omega
   have hb34:(c == 34)=false:=by simp;omega
   have hb9:(c == 9)=false:=by simp;omega
   have hb10:(c == 10)=false:=by simp;omega
   have hb38:(c == 38)=false:=by simp;omega
   clear hc60 hc62 hc13 hc34 hc9 hc10 hc38;by_cases hch:charB c=false
   ·rw [if_pos hch] at hstep
    have hv:Hid (V=([],k,21)):=by
     show _=_
     rw [hjo.out,zAL _ _ hnn.out _ hstep,zAM _ _ _ (by decide)]
    clear hstep
    go_wp2_with (first | (go_at_call 117;refine (zAc (s.extract k s.size) wr (by unfold maxLen;omega) c n hq).mono ?_;rintro e w2 ⟨rfl,hb2⟩) | (go_at_call 129;refine (zAZ _ _).mono ?_;rintro e w4 ⟨rfl,hb4⟩))
    go_ret3;have hz2:=hb2.size
    exact ⟨by rw [hv.out];rfl,(hbel.trans (hb2.mono (by omega))).trans (hb4.mono (by omega))⟩
   ·rw [if_neg hch] at hstep
    have hch':charB c=true:=by simpa using hch
    have HS:=Lib.hid hstep
    have hpl:=zBZ c
    clear hstep hch
    go_wp2_with (first | (go_at_call 117;refine (zAc (s.extract k s.size) wr (by unfold maxLen;omega) c n hq).mono ?_;rintro e w2 ⟨rfl,hb2⟩) | (go_at_call 129;refine (zAZ _ _).mono ?_;rintro e w4 ⟨rfl,hb4⟩))
    have hz2:=hb2.size;have hz4:=hb4.size;skip
    go_roundw
    case rel =>
     refine ⟨k+n,acc++putF c,congrArg Value.string (zFp _ _),by go_num,by omega,?_,?_,(hbel.trans (hb2.mono (by omega))).trans (hb4.mono (by omega))⟩
     ·show _=_
      rw [hjo.out,zA6 _ _ hnn.out _ _ HS.out,zBB,List.drop_drop]
     ·rw [List.length_append];omega
    case measure=>simp [intOf];omega
  ·have hk:k=s.size:=by omega
   have hv:Hid (V=(acc,s.size,0)):=by
    have:s.data.toList.drop k=[]:=List.drop_eq_nil_of_le (by rw [HL.out];omega)
    show _=_
    rw [hjo.out,this,zBr,hk];simp [joinU]
   subst hk
   go_wp2_with fail
   go_ret3;exact ⟨by rw [hv.out];rfl,hbel⟩
theorem zGy (s:ByteArray) (w:World) (hs:s.size≤1000000000) (V:List UInt8 × Nat × Int) (hV:Hid (V=undoL false s.data.toList)) :
  Calls Tryz.prog 149 #[.string s,.bool false] w (Ret w (.tuple #[.string ⟨V.1.toArray⟩,.int .i64 (V.2.1:Nat),.int .i64 V.2.2])):=by
 go_enter Tryz.func149,Tryz.ntmps149
 go_wp2_with fail
 go_loopw [7,8] (fun ov av wr=>∃ (k:Nat) (acc:List UInt8),ov=.string ⟨acc.toArray⟩∧av=.int .i64 k∧k≤s.size∧Hid (V=joinU acc k (undoL false (s.data.toList.drop k)))∧acc.length≤4 * k∧Below w.heap.size w wr) (fun _ av _=>s.size-(intOf av).toNat)
 case atStart =>
  refine ⟨0,[],rfl,rfl,Nat.zero_le _,?_,by simp,Below.refl _ _⟩
  show _=_
  rw [hV.out,List.drop_zero,zCu _ (zBx _ _)]
 case round =>
  obtain ⟨k,acc,rfl,rfl,hks,hjo,hal,hbel⟩:=hrel
  have hwr:=hbel.size
  have HL:=Lib.hid (zAH s)
  by_cases hend:k<s.size
  ·have hx:Hid ((s.extract k s.size).data.toList=s.data.toList.drop k):=Lib.extract_to_end s k
   have hxs:(s.extract k s.size).size=s.size-k:=by simp
   have hnn:Hid (s.data.toList.drop k≠[]):=by
    intro h;have:=congrArg List.length h
    rw [List.length_drop,HL.out] at this;simp at this;omega
   have hszl:(s.extract k s.size).size≤1000000000:=by omega
   have HXS:=Lib.hid hxs
   clear hxs;obtain ⟨c,n,hq⟩:∃ c n,Hid (nextL (s.extract k s.size).data.toList=(c,n)):=⟨_,_,rfl⟩
   have hle:=zA2 (s.extract k s.size).data.toList
   rw [hq.out,hx.out,List.length_drop,HL.out] at hle;obtain ⟨hn1,hn4⟩:=hle
   simp only at hn1 hn4
   by_cases hn:n=0
   ·have hv:Hid (V=([],k,21)):=by
     have:=zDn (v:=false) hq.out hn
     rw [hx.out] at this;show _=_
     rw [hjo.out,zAL _ _ hnn.out _ this,zAM _ _ _ (by decide)]
    have hn0:((n:Int) == 0)=true:=by simp [hn]
    have hnz:n≤0:=by omega
    clear hn
    go_wp2_with (go_at_call 117;refine (zAc (s.extract k s.size) wr (by unfold maxLen;omega) c n hq).mono ?_;rintro e w2 ⟨rfl,hb2⟩)
    go_ret3;exact ⟨by rw [hv.out];rfl,hbel.trans (hb2.mono (by omega))⟩
   have hnp:0<n:=by omega
   have hn0:((n:Int) == 0)=false:=by simp [hn]
   clear hn;by_cases hc60:c=60
   ·subst hc60
    have hv:Hid (V=([],k,20)):=by
     have:=zBl (v:=false) hq.out hnp (.inl rfl)
     rw [hx.out] at this;show _=_
     rw [hjo.out,zAL _ _ hnn.out _ this,zAM _ _ _ (by decide)]
    go_wp2_with (go_at_call 117;refine (zAc (s.extract k s.size) wr (by unfold maxLen;omega) 60 n hq).mono ?_;rintro e w2 ⟨rfl,hb2⟩)
    go_ret3;exact ⟨by rw [hv.out];rfl,hbel.trans (hb2.mono (by omega))⟩
   by_cases hc62:c=62
   ·subst hc62
    have hv:Hid (V=([],k,20)):=by
     have:=zBl (v:=false) hq.out hnp (.inr rfl)
     rw [hx.out] at this;show _=_
     rw [hjo.out,zAL _ _ hnn.out _ this,zAM _ _ _ (by decide)]
    go_wp2_with (go_at_call 117;refine (zAc (s.extract k s.size) wr (by unfold maxLen;omega) 62 n hq).mono ?_;rintro e w2 ⟨rfl,hb2⟩)
    go_ret3;exact ⟨by rw [hv.out];rfl,hbel.trans (hb2.mono (by omega))⟩
   by_cases hc13:c=13
   ·subst hc13
    have hv:Hid (V=([],k,21)):=by
     have:=zBP (v:=false) hq.out (.inl rfl)
     rw [hx.out] at this;show _=_
     rw [hjo.out,zAL _ _ hnn.out _ this,zAM _ _ _ (by decide)]
    go_wp2_with (go_at_call 117;refine (zAc (s.extract k s.size) wr (by unfold maxLen;omega) 13 n hq).mono ?_;rintro e w2 ⟨rfl,hb2⟩)
    go_ret3;exact ⟨by rw [hv.out];rfl,hbel.trans (hb2.mono (by omega))⟩
   by_cases hc38:c=38
   ·subst hc38
    obtain ⟨c',n',hr⟩:∃ c' n',Hid (refL (s.extract k s.size).data.toList=(c',n')):=⟨_,_,rfl⟩
    have hrl:=zEO (s.extract k s.size).data.toList
    rw [hr.out,hx.out,List.length_drop,HL.out] at hrl;simp only at hrl
    have hrb:=zKB (s.extract k s.size).data.toList
    rw [hr.out] at hrb;obtain ⟨hrb0,hrb1⟩:=hrb
    simp only at hrb0 hrb1
    have hstep:=zDB (v:=false) hq.out hnp hr.out
    rw [hx.out] at hstep;by_cases hn':n'=0
    ·rw [if_pos hn'] at hstep
     have hv:Hid (V=([],k,20)):=by
      show _=_
      rw [hjo.out,zAL _ _ hnn.out _ hstep,zAM _ _ _ (by decide)]
     have hn0':((n':Int) == 0)=true:=by simp [hn']
     clear hn' hstep
     go_wp2_with (first | (go_at_call 117;refine (zAc (s.extract k s.size) wr (by unfold maxLen;omega) 38 n hq).mono ?_;rintro e w2 ⟨rfl,hb2⟩) | (go_at_call 154;refine (zBp (s.extract k s.size) _ (by unfold maxLen;omega) c' n' hr).mono ?_;rintro e w3 ⟨rfl,hb3⟩) | (go_at_call 129;refine (zAZ _ _).mono ?_;rintro e w4 ⟨rfl,hb4⟩))
     go_ret3;have hz2:=hb2.size
     exact ⟨by rw [hv.out];rfl,(hbel.trans (hb2.mono (by omega))).trans (hb3.mono (by omega))⟩
    rw [if_neg hn'] at hstep;have hn0':((n':Int) == 0)=false:=by simp [hn']
    have hnp':0<n':=by omega
    clear hn';by_cases hch:charB c'=false
    ·rw [if_pos hch] at hstep
     have hv:Hid (V=([],k,21)):=by
      show _=_
      rw [hjo.out,zAL _ _ hnn.out _ hstep,zAM _ _ _ (by decide)]
     clear hstep
     go_wp2_with (first | (go_at_call 117;refine (zAc (s.extract k s.size) wr (by unfold maxLen;omega) 38 n hq).mono ?_;rintro e w2 ⟨rfl,hb2⟩) | (go_at_call 154;refine (zBp (s.extract k s.size) _ (by unfold maxLen;omega) c' n' hr).mono ?_;rintro e w3 ⟨rfl,hb3⟩) | (go_at_call 129;refine (zAZ _ _).mono ?_;rintro e w4 ⟨rfl,hb4⟩))
     go_ret3;have hz2:=hb2.size;have hz3:=hb3.size
     exact ⟨by rw [hv.out];rfl,((hbel.trans (hb2.mono (by omega))).trans (hb3.mono (by omega))).trans (hb4.mono (by omega))⟩
    ·rw [if_neg hch] at hstep
     have hch':charB c'=true:=by simpa using hch
     have HS:=Lib.hid hstep
     have hpl:=zBZ c'
     clear hstep hch
     go_wp2_with (first | (go_at_call 117;refine (zAc (s.extract k s.size) wr (by unfold maxLen;omega) 38 n hq).mono ?_;rintro e w2 ⟨rfl,hb2⟩) | (go_at_call 154;refine (zBp (s.extract k s.size) _ (by unfold maxLen;omega) c' n' hr).mono ?_;rintro e w3 ⟨rfl,hb3⟩) | (go_at_call 129;refine (zAZ _ _).mono ?_;rintro e w4 ⟨rfl,hb4⟩))
     have hz2:=hb2.size;have hz4:=hb4.size;have hz3:=hb3.size
     go_roundw
     case rel =>
      refine ⟨k+n',acc++putF c',congrArg Value.string (zFp _ _),by go_num,by omega,?_,?_,((hbel.trans (hb2.mono (by omega))).trans (hb3.mono (by omega))).trans (hb4.mono (by omega))⟩
      ·show _=_
       rw [hjo.out,zA6 _ _ hnn.out _ _ HS.out,zBB,List.drop_drop]
      ·rw [List.length_append];omega
     case measure=>simp [intOf];omega
   have hstep:=zDA (v:=false) hq.out hnp (by omega) (by simp;omega) hc38
   rw [hx.out] at hstep;have hb60:(c == 60)=false:=by simp;omega
   have hb62:(c == 62)=false:=by simp;omega
   have hb13:(c == 13)=false:=by simp;omega
   have hb38:(c == 38)=false:=by simp;omega
   clear hc60 hc62 hc13 hc38;by_cases hch:charB c=false
   ·rw [if_pos hch] at hstep
    have hv:Hid (V=([],k,21)):=by
     show _=_
     rw [hjo.out,zAL _ _ hnn.out _ hstep,zAM _ _ _ (by decide)]
    clear hstep
    go_wp2_with (first | (go_at_call 117;refine (zAc (s.extract k s.size) wr (by unfold maxLen;omega) c n hq).mono ?_;rintro e w2 ⟨rfl,hb2⟩) | (go_at_call 129;refine (zAZ _ _).mono ?_;rintro e w4 ⟨rfl,hb4⟩))
    go_ret3;have hz2:=hb2.size
    exact ⟨by rw [hv.out];rfl,(hbel.trans (hb2.mono (by omega))).trans (hb4.mono (by omega))⟩
   ·rw [if_neg hch] at hstep
    have hch':charB c=true:=by simpa using hch
    have HS:=Lib.hid hstep
    have hpl:=zBZ c
    clear hstep hch
    go_wp2_with (first | (go_at_call 117;refine (zAc (s.extract k s.size) wr (by unfold maxLen;omega) c n hq).mono ?_;rintro e w2 ⟨rfl,hb2⟩) | (go_at_call 129;refine (zAZ _ _).mono ?_;rintro e w4 ⟨rfl,hb4⟩))
    have hz2:=hb2.size;have hz4:=hb4.size;skip
    go_roundw
    case rel =>
     refine ⟨k+n,acc++putF c,congrArg Value.string (zFp _ _),by go_num,by omega,?_,?_,(hbel.trans (hb2.mono (by omega))).trans (hb4.mono (by omega))⟩
     ·show _=_
      rw [hjo.out,zA6 _ _ hnn.out _ _ HS.out,zBB,List.drop_drop]
     ·rw [List.length_append];omega
    case measure=>simp [intOf];omega
  ·have hk:k=s.size:=by omega
   have hv:Hid (V=(acc,s.size,0)):=by
    have:s.data.toList.drop k=[]:=List.drop_eq_nil_of_le (by rw [HL.out];omega)
    show _=_
    rw [hjo.out,this,zBr,hk];simp [joinU]
   subst hk
   go_wp2_with fail
   go_ret3;exact ⟨by rw [hv.out];rfl,hbel⟩
theorem zI6 (s:ByteArray) (v:Bool) (w:World) (hs:s.size≤1000000000) :
  Calls Tryz.prog 149 #[.string s,.bool v] w (Ret w (.tuple #[.string ⟨(undoL v s.data.toList).1.toArray⟩,.int .i64 ((undoL v s.data.toList).2.1:Nat),.int .i64 (undoL v s.data.toList).2.2])):=by
 cases v
 ·exact zGy s w hs _ rfl
 ·exact zID s w hs _ rfl
end
section
open Go.RowKit
def partC (kind num:Int) (name value:List UInt8) (at_ bad e:Int):Array Value:=#[.int .i64 kind,.int .i64 num,.string ⟨name.toArray⟩,.string ⟨value.toArray⟩,.int .i64 at_,.int .i64 bad,.int .i64 e]
def zeroPt:Array Value:=#[.int .i64 0,.int .i64 0,.string ⟨#[]⟩,.string ⟨#[]⟩,.int .i64 0,.int .i64 0,.int .i64 0]
theorem zAW (kind num:Int) (name value:List UInt8) (at_ bad e:Int):(partC kind num name value at_ bad e).all (·.oneCell')=true:=by simp [partC,Value.oneCell']
theorem zLq (s:ByteArray) (v:Bool) (w:World) (hs:s.size≤1000000000) (o:List UInt8) (k:Nat) (e:Int) (h:Hid (undoL v s.data.toList=(o,k,e))) :
  Calls Tryz.prog 149 #[.string s,.bool v] w (Ret w (.tuple #[.string ⟨o.toArray⟩,.int .i64 (k:Nat),.int .i64 e])):=by
 have:=zI6 s v w hs
 rw [h.out] at this;exact this
theorem zAB {w w':World} {g:Nat} {o:Obj} (h:Below w.heap.size w w') (ho:w.heap[g]? = some o):w'.heap[g]? = some o:=by rw [h.block g (Array.getElem?_eq_some_iff.1 ho).1];exact ho
theorem zAE {B g:Nat} {w0 w:World} (hb:Below B w0 w) (hBg:B≤g) (cs:Array Value):Below B w0 (w.setRow g cs) :=
 ⟨hb.os,hb.tape,hb.output,by rw [setRow_size];exact hb.size,fun k hk=>(setRow_other _ _ _ _ (by omega)).trans (hb.block k hk)⟩
theorem zAn (s:ByteArray) (p:Nat) (t:List UInt8) (w:World) (hp:p≤s.size) (hs:s.size≤1000000000) (ht:t.length≤1000) (v:Bool) (hv:Hid (pre t (s.data.toList.drop p)=v)) :
  Calls Tryz.prog 66 #[.string s,.int .i64 p,.string ⟨t.toArray⟩] w (Ret w (.bool v)):=by
 have hsz:(⟨t.toArray⟩:ByteArray).size=t.length:=by show t.toArray.size=_;simp
 by_cases hl:t.length≤s.size-p
 ·have hx:(s.extract p (p+t.length)).data.toList=(s.data.toList.drop p).take t.length:=by
   rw [Lib.extract_data];congr 1;omega
  have hq:Hid (((s.extract p (p+t.length)).toList == t)=v):=by
   show _=_
   rw [ByteArray.toList_eq,hx,← hv.out];rfl
  have i0:(0:Int)≤(p:Int):=by omega
  have i1:(t.length:Int)≤(s.size:Int)-p:=by omega
  have i2:(p:Int)+t.length≤s.size:=by omega
  have i3:(p:Int)≤(p:Int)+t.length:=by omega
  have i4:(p:Int)≤s.size:=by omega
  clear hx hl
  go_enter Tryz.func66,Tryz.ntmps66
  go_wp2_with fail
  go_ret;exact ⟨zFk hq.out,Below.refl _ _⟩
 ·have hv':v=false:=by
   rw [← hv.out];cases h:pre t (s.data.toList.drop p) with
   | false=>rfl
   | true=>have:=zAU h;rw [List.length_drop,zAH] at this;omega
  subst hv';have i1:(s.size:Int)-p<t.length:=by omega
  have i4:(p:Int)≤s.size:=by omega
  go_enter Tryz.func66,Tryz.ntmps66
  go_wp2_with fail
  go_ret;exact ⟨rfl,Below.refl _ _⟩
theorem zBh (p e:Int) (w:World) :
  Calls Tryz.prog 142 #[.int .i64 p,.int .i64 e] w (Ret w (.agg (partC 0 0 [] [] 0 p e))):=by
 go_enter Tryz.func142,Tryz.ntmps142
 go_wp2_with fail
 try simp only [Exit.inBlock,Exit.then]
 refine bodyPost_ret (results_cell_row Tryz.results142 _ _ w.heap.size 191 (partC 0 0 [] [] 0 p e) (0,0) _ rfl (heap_alloc_new w _) Tryz.underlying191 rfl (by kernel_rfl)) rfl ?_
 exact ⟨rfl,(Below.refl _ w).alloc (Nat.le_refl _) _⟩
theorem zHj (p e:Int) (w:World) :
  Calls Tryz.prog 125 #[.int .i64 p,.int .i64 e] w (Ret w (.agg #[.int .i64 0,.slice none 0 0,.int .i64 p,.int .i64 e])):=by
 go_enter Tryz.func125,Tryz.ntmps125
 go_wp2_with fail
 try simp only [Exit.inBlock,Exit.then]
 refine bodyPost_ret (results_cell_row Tryz.results125 _ _ w.heap.size 129 #[.int .i64 0,.slice none 0 0,.int .i64 p,.int .i64 e] (0,0) _ rfl (heap_alloc_new w _) Tryz.underlying129 rfl (by kernel_rfl)) rfl ?_
 exact ⟨rfl,(Below.refl _ w).alloc (Nat.le_refl _) _⟩
theorem zHq (s:ByteArray) (p0:Nat) (w:World) (hp:p0≤s.size) (hs:s.size≤1000000000) (n:Nat) (hn:Hid (p0+partN (s.data.toList.drop p0)=n)) :
  Calls Tryz.prog 124 #[.string s,.int .i64 p0] w (Ret w (.int .i64 n)):=by
 have HL:=Lib.hid (zAH s)
 go_enter Tryz.func124,Tryz.ntmps124
 go_wp2_with fail
 go_loopw [1] (fun i wr=>∃ (p:Nat),p≤s.size∧i=.int .i64 (p:Int)∧Hid (p+partN (s.data.toList.drop p)=n)∧Hid (Below w.heap.size w wr)) (fun i _=>s.size-(intOf i).toNat)
 case atStart=>exact ⟨p0,hp,rfl,hn.out,Below.refl _ _⟩
 case round =>
  obtain ⟨p,hps,rfl,hin,hbel⟩:=hrel
  have j0:(0:Int)≤(p:Int):=by omega
  by_cases hlt:p<s.size
  ·have j1:(p:Int)<s.size:=by omega
   have j2:(p:Int)≤s.size:=by omega
   obtain ⟨c,m,hq⟩:∃ c m,Hid (nextL (s.data.toList.drop p)=(c,m)):=⟨_,_,rfl⟩
   have hq':Hid (nextL (s.extract p s.size).data.toList=(c,m)):=by show _=_;rw [zBQ];exact hq.out
   have hml:=(zA2 (s.data.toList.drop p)).1
   rw [hq.out,List.length_drop,HL.out] at hml;have hml':p+m≤s.size:=by simp only at hml;omega
   have hsx:(s.extract p s.size).size≤maxLen:=by unfold maxLen;simp;omega
   have hnx:=zFx (s.extract p s.size) wr hsx
   rw [hq'.out] at hnx;clear hml;by_cases hm:m=0
   ·subst hm
    have HIN:Hid (p=n):=by
     have:=zCM (l:=s.data.toList.drop p) (.inl (by rw [hq.out]))
     show _=_
     rw [← hin.out,this];rfl
    clear hin
    go_wp2_with fail;refine hnx.mono ?_
    clear hnx;rintro e w2 ⟨rfl,hb2⟩
    go_wp2_with fail
    go_ret;exact ⟨by rw [← HIN.out];rfl,hbel.out.trans (hb2.mono hbel.out.size)⟩
   ·have hmb:((m:Int) == 0)=false:=by simpa using hm
    obtain ⟨b,hb⟩:∃ b,Hid (partB c=b):=⟨_,rfl⟩
    cases b with
    | false =>
     have HIN:Hid (p=n):=by
      have:=zCM (l:=s.data.toList.drop p) (.inr (by rw [hq.out];exact hb.out))
      show _=_
      rw [← hin.out,this];rfl
     clear hin hm
     go_wp2_with fail;refine hnx.mono ?_
     clear hnx;rintro e w2 ⟨rfl,hb2⟩
     go_wp2_with fail;refine (zDc c w2 false hb).mono ?_
     rintro e w3 ⟨rfl,hb3⟩
     go_wp2_with fail
     go_ret;exact ⟨by rw [← HIN.out];rfl,hbel.out.trans ((hb2.trans (hb3.mono hb2.size)).mono hbel.out.size)⟩
    | true =>
     have HIN:Hid (p+m+partN (s.data.toList.drop (p+m))=n):=by
      have:=zE0 (l:=s.data.toList.drop p) (by rw [hq.out];simp [hm,hb.out])
      show _=_
      rw [← hin.out,this,hq.out,List.drop_drop];simp only
      omega
     clear hin
     go_wp2_with fail;refine hnx.mono ?_
     clear hnx;rintro e w2 ⟨rfl,hb2⟩
     go_wp2_with fail;refine (zDc c w2 true hb).mono ?_
     rintro e w3 ⟨rfl,hb3⟩
     go_wp2_with fail
     go_roundw
     case rel=>exact ⟨p+m,hml',by go_num,HIN.out,hbel.out.trans ((hb2.trans (hb3.mono hb2.size)).mono hbel.out.size)⟩
     case measure=>simp [intOf];omega
  ·have HIN:Hid (p=n):=by
    show _=_
    rw [← hin.out,List.drop_eq_nil_of_le (by rw [HL.out];omega)]
    rfl
   have j1:(s.size:Int)≤(p:Int):=by omega
   clear hin
   go_wp2_with fail
   go_ret;exact ⟨by rw [← HIN.out];rfl,hbel.out⟩
end
section
open Go.RowKit
def VPost (w:World) (p:Nat) (V:Told (List UInt8)) (e:Ending) (w':World):Prop :=
 Below w.heap.size w w'∧match V with
 | .ok v n=>e=.returned (.agg (partC 0 0 [] v ((p+n:Nat):Int) 0 0))
 | .bad k c=>e=.returned (.agg (partC 0 0 [] [] 0 ((p+k:Nat):Int) c))
def NPost (w:World) (p:Nat) (V:Told Int) (e:Ending) (w':World):Prop :=
 Below w.heap.size w w'∧match V with
 | .ok v n=>e=.returned (.agg (partC 1 v [] [] ((p+n:Nat):Int) 0 0))
 | .bad k c=>e=.returned (.agg (partC 0 0 [] [] 0 ((p+k:Nat):Int) c))
theorem zMr (s:ByteArray) (p:Nat) (w:World) (hp:p≤s.size) (hs:s.size≤1000000000) (V:Told (List UInt8)) (hV:Hid (qvalue (s.data.toList.drop p)=V)) :
  Calls Tryz.prog 143 #[.string s,.int .i64 p] w (VPost w p V):=by
 have HL:=Lib.hid (zAH s)
 cases hq:pre [34] (s.data.toList.drop p) with
 | false =>
  have HV:Hid (V=.bad 0 70):=by show _=_;rw [← hV.out];unfold qvalue;rw [if_pos hq]
  go_enter Tryz.func143,Tryz.ntmps143
  go_wp2_with fail;obtain ⟨W1,hW1⟩:∃ W1,Hid (W1=w.alloc (.cells zeroPt 191)):=⟨_,rfl⟩
  change Calls _ _ _ (w.alloc (.cells zeroPt 191)) _
  rw [← hW1.out];have hb1:Below w.heap.size w W1:=by rw [hW1.out];exact (Below.refl _ w).alloc (Nat.le_refl _) _
  have HT1:Hid (W1.heap[w.heap.size]? = some (.cells zeroPt 191 (0,0))):=by show _=_;rw [hW1.out];exact heap_alloc_new w _
  have HB1:=Lib.hid hb1
  clear hb1;refine (zAn s p [34] W1 hp hs (by decide) false hq).mono ?_
  rintro e w2 ⟨rfl,hb2⟩
  go_wp2_with fail;refine (zBh p 70 w2).mono ?_
  rintro e w3 ⟨rfl,hb3⟩;have HT3:=Lib.hid (zAB hb3 (zAB hb2 HT1.out))
  have HB3:=Lib.hid (HB1.out.trans ((hb2.trans (hb3.mono hb2.size)).mono HB1.out.size))
  clear hb2 hb3
  go_wp2_with (refine wpList_store_row rfl 191 (.tmp 4) (.tmp 14) rfl w.heap.size (partC 0 0 [] [] 0 p 70) rfl rfl 191 zeroPt HT3.out (by kernel_rfl) rfl (zAW _ _ _ _ _ _ _) ?_)
  try simp only [Exit.inBlock,Exit.then]
  refine bodyPost_ret (results_cell_row Tryz.results143 _ _ w.heap.size 191 (partC 0 0 [] [] 0 p 70) (0,0) _ rfl (setRow_heap _ _ _ _ _ _ HT3.out) Tryz.underlying191 rfl (by kernel_rfl)) rfl ?_
  unfold VPost;rw [HV.out];exact ⟨zAE HB3.out (Nat.le_refl _) _,rfl⟩
 | true =>
  have hp1:p+1≤s.size:=by
   have:=zAU hq
   rw [List.length_drop,HL.out] at this;simp at this;omega
  obtain ⟨v,hv⟩:∃ v,Hid ((s.data.toList.drop (p+1)).takeWhile (· != 34)=v):=⟨_,rfl⟩
  obtain ⟨n,hn⟩:∃ n,Hid (p+1+v.length=n):=⟨_,rfl⟩
  have hvl:v.length≤s.size-(p+1):=by
   have:=zA5 (· != 34) (s.data.toList.drop (p+1))
   rw [hv.out,List.length_drop,HL.out] at this;exact this
  have hnl:n≤s.size:=by have:=hn.out;omega
  have hx:(s.extract (p+1) n).data.toList=v:=by
   rw [Lib.extract_data];have h2:=zCG (s.data.toList.drop (p+1)) (· != 34)
   rw [hv.out] at h2;rw [show n-(p+1)=v.length by have:=hn.out;omega]
   conv=>lhs;rw [h2]
   rw [List.take_append_of_le_length (Nat.le_refl _),List.take_length]
  obtain ⟨u,m,c,hu⟩:∃ u m c,Hid (undoL true v=(u,m,c)):=⟨_,_,_,rfl⟩
  have hU:Hid (undoL true (s.extract (p+1) n).data.toList=(u,m,c)):=by show _=_;rw [hx];exact hu.out
  have hxs:(s.extract (p+1) n).size≤1000000000:=by rw [ByteArray.size_extract];omega
  have HXS:=Lib.hid hxs
  have hm1:m≤v.length:=by have:=zFr true v;rw [hu.out] at this;exact this
  have hVV:Hid (V=if n=s.size then .bad (n-p) 70 else if c≠0 then .bad (1+m) c else .ok u (1+v.length+1)):=by
   show _=_
   rw [← hV.out];unfold qvalue;rw [if_neg (by rw [hq];decide),List.drop_drop]
   simp only
   rw [hv.out,hu.out,List.length_drop,List.length_drop,HL.out];have hnn:=hn.out
   by_cases h1:n=s.size
   ·rw [if_pos (by omega),if_pos h1]
    congr 1;omega
   ·rw [if_neg (by omega),if_neg h1]
  have i0:(0:Int)≤(p:Int):=by omega
  have i1:(p:Int)+1≤s.size:=by omega
  have i2:(p:Int)+1≤n:=by have:=hn.out;omega
  have i3:(n:Int)≤s.size:=by omega
  have hm2:(p:Int)+1+m≤s.size:=by have:=hn.out;omega
  clear hx hxs hm1 hV
  go_enter Tryz.func143,Tryz.ntmps143
  go_wp2_with fail;obtain ⟨W1,hW1⟩:∃ W1,Hid (W1=w.alloc (.cells zeroPt 191)):=⟨_,rfl⟩
  change Calls _ _ _ (w.alloc (.cells zeroPt 191)) _
  rw [← hW1.out];have hb1:Below w.heap.size w W1:=by rw [hW1.out];exact (Below.refl _ w).alloc (Nat.le_refl _) _
  have HT1:Hid (W1.heap[w.heap.size]? = some (.cells zeroPt 191 (0,0))):=by show _=_;rw [hW1.out];exact heap_alloc_new w _
  have HB1:=Lib.hid hb1
  clear hb1;refine (zAn s p [34] W1 hp hs (by decide) true hq).mono ?_
  rintro e w2 ⟨rfl,hb2⟩;have HT2:=Lib.hid (zAB hb2 HT1.out)
  have HB2:=Lib.hid (HB1.out.trans (hb2.mono HB1.out.size))
  clear hb2
  go_wp2_with fail
  go_loopw [5] (fun i wr=>∃ (k:Nat),p+1≤k∧k≤s.size∧i=.int .i64 (k:Int)∧Hid (k+((s.data.toList.drop k).takeWhile (· != 34)).length=n)∧Hid (wr=w2)) (fun i _=>s.size-(intOf i).toNat)
  case atStart=>exact ⟨p+1,Nat.le_refl _,hp1,by go_num,by show _=_;rw [hv.out];exact hn.out,rfl⟩
  case round =>
   obtain ⟨k,hk0,hks,rfl,hin,hwr⟩:=hrel
   have hwr':=hwr.out.symm
   subst hwr';have j0:(0:Int)≤(k:Int):=by omega
   by_cases hlt:k<s.size
   ·obtain ⟨x,HX⟩:∃ x,Hid (s.data.toList[k]? = some x):=⟨s.data.toList[k]'(by have:=HL.out;omega),List.getElem?_eq_getElem _⟩
    have hsx:s[k]=x:=zAv s k x HX.out hlt
    have hin':=hin.out
    rw [zAY HX.out,List.takeWhile_cons] at hin';have j1:(k:Int)<s.size:=by omega
    by_cases hc:x=34
    ·subst hc
     have HIN:Hid (k=n):=by show _=_;rw [← hin'];simp
     have hkn:k=n:=HIN.out
     subst hkn;have hks1:((k:Int) == (s.size:Int))=false:=by simp;omega
     have HVV:Hid (V=if c≠0 then .bad (1+m) c else .ok u (1+v.length+1)):=by show _=_;rw [hVV.out,if_neg (by omega)]
     clear hin hin' hVV
     go_wp2_with fail;refine (zLq _ true w2 HXS.out u m c hU).mono ?_
     rintro e w3 ⟨rfl,hb3⟩;have HT3:=Lib.hid (zAB hb3 HT2.out)
     have HB3:=Lib.hid (HB2.out.trans (hb3.mono HB2.out.size))
     clear hb3;by_cases he:c=0
     ·subst he
      go_wp2_with (refine wpList_store_row rfl 191 (.tmp 4) (.tmp 57) rfl w.heap.size (partC 0 0 [] u (k+1) 0 0) rfl rfl 191 zeroPt HT3.out (by kernel_rfl) rfl (zAW _ _ _ _ _ _ _) ?_)
      try simp only [Exit.inBlock,Exit.then]
      refine bodyPost_ret (results_cell_row Tryz.results143 _ _ w.heap.size 191 (partC 0 0 [] u (k+1) 0 0) (0,0) _ rfl (setRow_heap _ _ _ _ _ _ HT3.out) Tryz.underlying191 rfl (by kernel_rfl)) rfl ?_
      unfold VPost;rw [HVV.out,if_neg (by simp)]
      exact ⟨zAE HB3.out (Nat.le_refl _) _,by
       show _=Ending.returned _
       rw [show ((p+(1+v.length+1):Nat):Int)=(k:Int)+1 by have:=hn.out;omega]⟩
     ·have he1:(c != 0)=true:=by simpa using he
      go_wp2_with fail;refine (zBh _ c w3).mono ?_
      rintro e w4 ⟨rfl,hb4⟩;have HT4:=Lib.hid (zAB hb4 HT3.out)
      have HB4:=Lib.hid (HB3.out.trans (hb4.mono HB3.out.size))
      clear hb4
      go_wp2_with (refine wpList_store_row rfl 191 (.tmp 4) (.tmp 52) rfl w.heap.size (partC 0 0 [] [] 0 ((p:Int)+1+m) c) rfl rfl 191 zeroPt HT4.out (by kernel_rfl) rfl (zAW _ _ _ _ _ _ _) ?_)
      try simp only [Exit.inBlock,Exit.then]
      refine bodyPost_ret (results_cell_row Tryz.results143 _ _ w.heap.size 191 (partC 0 0 [] [] 0 ((p:Int)+1+m) c) (0,0) _ rfl (setRow_heap _ _ _ _ _ _ HT4.out) Tryz.underlying191 rfl (by kernel_rfl)) rfl ?_
      unfold VPost;rw [HVV.out,if_pos he];exact ⟨zAE HB4.out (Nat.le_refl _) _,by
       show _=Ending.returned _
       rw [show ((p+(1+m):Nat):Int)=(p:Int)+1+m by omega]⟩
    ·have hne:(x != 34)=true:=by simpa using hc
     have hne2:((x.toNat:Int) != 34)=true:=by have:((x.toNat:Int) == 34)=false:=zHV hc;simp [bne,this]
     have HIN:Hid (k+1+((s.data.toList.drop (k+1)).takeWhile (· != 34)).length=n):=by
      show _=_;rw [← hin',if_pos hne,List.length_cons];omega
     clear hin hin' hc hne
     go_wp2_with fail
     go_roundw
     case rel=>exact ⟨k+1,by omega,by omega,by go_num,HIN.out,trivial⟩
     case measure=>simp [intOf];omega
   ·have hks2:k=s.size:=by omega
    have HIN:Hid (k=n):=by
     show _=_
     rw [← hin.out,List.drop_eq_nil_of_le (by rw [HL.out];omega)]
     rfl
    have j1:(s.size:Int)≤(k:Int):=by omega
    have hks1:((k:Int) == (s.size:Int))=true:=by simp;omega
    have HVV:Hid (V=.bad (n-p) 70):=by show _=_;rw [hVV.out,if_pos (by rw [← HIN.out];exact hks2)]
    clear hin hVV
    go_wp2_with fail;refine (zBh s.size 70 w2).mono ?_
    rintro e w4 ⟨rfl,hb4⟩;have HT4:=Lib.hid (zAB hb4 HT2.out)
    have HB4:=Lib.hid (HB2.out.trans (hb4.mono HB2.out.size))
    clear hb4
    go_wp2_with (refine wpList_store_row rfl 191 (.tmp 4) (.tmp 34) rfl w.heap.size (partC 0 0 [] [] 0 (s.size:Int) 70) rfl rfl 191 zeroPt HT4.out (by kernel_rfl) rfl (zAW _ _ _ _ _ _ _) ?_)
    try simp only [Exit.inBlock,Exit.then]
    refine bodyPost_ret (results_cell_row Tryz.results143 _ _ w.heap.size 191 (partC 0 0 [] [] 0 (s.size:Int) 70) (0,0) _ rfl (setRow_heap _ _ _ _ _ _ HT4.out) Tryz.underlying191 rfl (by kernel_rfl)) rfl ?_
    unfold VPost;rw [HVV.out];exact ⟨zAE HB4.out (Nat.le_refl _) _,by
     show _=Ending.returned _
     rw [show ((p+(n-p):Nat):Int)=(s.size:Int) by have:=HIN.out;omega]⟩
theorem zHv:∀ r:List UInt8,(∀ x∈r,digB x=true)→numQ 10000 r=10000
 | [],_=>rfl
 | x :: r,h=>by
  have hx:=h x (by simp)
  unfold digB at hx;have hx':=of_decide_eq_true hx
  rw [numQ,show min (10 * (10000:Int)+((x.toNat:Int)-48)) 10000=10000 by omega]
  exact zHv r fun y hy=>h y (by simp [hy])
def numN:Int→List UInt8→Int
 | n,[]=>n
 | n,d :: r=>numN (10 * n+((d.toNat:Int)-48)) r
theorem zCz:∀ (n:Int) (ds:List UInt8) (d:UInt8),numN n (ds++[d])=10 * numN n ds+((d.toNat:Int)-48)
 | _,[],_=>rfl
 | n,a :: ds,d=>by rw [List.cons_append,numN,zCz,numN]
theorem zBE {x:UInt8} (h:digB x=true):48≤x.toNat∧x.toNat≤57:=of_decide_eq_true h
theorem zEC {d:List UInt8} (hd:∀ x∈d,digB x=true) (h:4<d.length) (h0:∀ x t,d=x :: t→x.toNat≠48):numQ 0 d=10000:=by
 match d,h,h0,hd with
 | a :: b :: c :: e :: g :: r,_,h0,hd =>
  have ha:=zBE (hd a (by simp))
  have hb:=zBE (hd b (by simp))
  have hc:=zBE (hd c (by simp))
  have he:=zBE (hd e (by simp))
  have hg:=zBE (hd g (by simp))
  have h1:=h0 a _ rfl
  rw [numQ,numQ,numQ,numQ,numQ];have:∀ q:Int,q=10000→numQ q r=10000:=fun q hq=>by rw [hq];exact zHv r fun y hy=>hd y (by simp [hy])
  refine this _ ?_
  omega
theorem zBc {d:List UInt8} (hd:∀ x∈d,digB x=true) (h:d.length≤4):numQ 0 d=numN 0 d∧0≤numN 0 d∧numN 0 d≤9999:=by
 match d,h,hd with
 | [],_,_=>exact ⟨rfl,by decide,by decide⟩
 | [a],_,hd =>
  have ha:=zBE (hd a (by simp))
  simp only [numQ,numN];omega
 | [a,b],_,hd =>
  have ha:=zBE (hd a (by simp))
  have hb:=zBE (hd b (by simp))
  simp only [numQ,numN];omega
 | [a,b,c],_,hd =>
  have ha:=zBE (hd a (by simp))
  have hb:=zBE (hd b (by simp))
  have hc:=zBE (hd c (by simp))
  simp only [numQ,numN];omega
 | [a,b,c,e],_,hd =>
  have ha:=zBE (hd a (by simp))
  have hb:=zBE (hd b (by simp))
  have hc:=zBE (hd c (by simp))
  have he:=zBE (hd e (by simp))
  simp only [numQ,numN];omega
 | _ :: _ :: _ :: _ :: _ :: _,h,_=>simp at h
theorem zFC (l:List UInt8):∀ x∈l.takeWhile digB,digB x=true:=fun x hx=>by
 induction l with
 | nil=>simp at hx
 | cons a l ih =>
  rw [List.takeWhile_cons] at hx
  split at hx
  ·rcases List.mem_cons.1 hx with rfl | hx
   ·assumption
   ·exact ih hx
  ·simp at hx
end
section
open Go.RowKit
theorem zMA (s:ByteArray) (p:Nat) (w:World) (hp:p≤s.size) (hs:s.size≤1000000000) (V:Told Int) (hV:Hid (qnumber (s.data.toList.drop p)=V)) :
  Calls Tryz.prog 144 #[.string s,.int .i64 p] w (NPost w p V):=by
 have HL:=Lib.hid (zAH s)
 obtain ⟨dl,hDD⟩:∃ dl,Hid (((s.data.toList.drop p).takeWhile digB).length=dl):=⟨_,rfl⟩
 obtain ⟨n,hn⟩:∃ n,Hid (p+dl=n):=⟨_,rfl⟩
 go_enter Tryz.func144,Tryz.ntmps144
 go_wp2_with fail;obtain ⟨W1,hW1⟩:∃ W1,Hid (w.alloc (.cells zeroPt 191)=W1):=⟨_,rfl⟩
 have hW1':=hW1.out
 unfold zeroPt at hW1';rw [hW1'];have HB1:Hid (Below w.heap.size w W1):=by show Below _ _ _;rw [← hW1.out];exact (Below.refl _ w).alloc (Nat.le_refl _) _
 have HT1:Hid (W1.heap[w.heap.size]? = some (.cells zeroPt 191 (0,0))):=by show _=_;rw [← hW1.out];exact heap_alloc_new w _
 clear hW1'
 go_loopw [5] (fun i wr=>∃ (k:Nat),p≤k∧k≤s.size∧i=.int .i64 (k:Int)∧Hid (k+((s.data.toList.drop k).takeWhile digB).length=n)∧Hid (wr=W1)) (fun i _=>s.size-(intOf i).toNat)
 case atStart=>exact ⟨p,Nat.le_refl _,hp,rfl,by show _=_;rw [hDD.out];exact hn.out,rfl⟩
 case round =>
  obtain ⟨k,hk0,hks,rfl,hin,hwr⟩:=hrel
  have hwr':=hwr.out.symm
  subst hwr';have j0:(0:Int)≤(k:Int):=by omega
  by_cases hlt:k<s.size
  ·obtain ⟨x,HX⟩:∃ x,Hid (s.data.toList[k]? = some x):=⟨s.data.toList[k]'(by have:=HL.out;omega),List.getElem?_eq_getElem _⟩
   have hsx:s[k]=x:=zAv s k x HX.out hlt
   have hin':=hin.out
   rw [zAY HX.out,List.takeWhile_cons] at hin';have j1:(k:Int)<s.size:=by omega
   cases hdg:digB x with
   | true =>
    obtain ⟨x0,x1⟩:=zBE hdg
    have x2:(48:Int)≤(x.toNat:Int):=by omega
    have x3:(x.toNat:Int)≤57:=by omega
    have HIN:Hid (k+1+((s.data.toList.drop (k+1)).takeWhile digB).length=n):=by
     show _=_;rw [← hin',if_pos hdg,List.length_cons];omega
    clear hin hin' hdg x0 x1
    go_wp2_with fail
    go_roundw
    case rel=>exact ⟨k+1,by omega,by omega,by go_num,HIN.out,trivial⟩
    case measure=>simp [intOf];omega
   | false =>
    have HIN:Hid (k=n):=by show _=_;rw [← hin',if_neg (by rw [hdg];decide)];rfl
    have hnd:=of_decide_eq_false hdg
    clear hin' hdg;by_cases x48:(48:Int)≤(x.toNat:Int)
    ·have x57:¬ (x.toNat:Int)≤57:=by omega
     clear hnd;have hkn:k=n:=HIN.out
     subst hkn;clear hin;by_cases hD:k=p
     ·have hpp:((k:Int) == (p:Int))=true:=by simp;omega
      have HV:Hid (V=.bad 0 70):=by
       show _=_
       rw [← hV.out];unfold qnumber;simp only;rw [if_pos (.inl (List.eq_nil_of_length_eq_zero (by rw [hDD.out];have:=hn.out;omega)))]
      clear hD HX
      go_wp2_with fail;refine (zBh p 70 W1).mono ?_
      rintro e w3 ⟨rfl,hb3⟩;have HT3:=Lib.hid (zAB hb3 HT1.out)
      have HB3:=Lib.hid (HB1.out.trans (hb3.mono HB1.out.size))
      clear hb3
      go_wp2_with (refine wpList_store_row rfl 191 (.tmp 4) (.tmp 43) rfl w.heap.size (partC 0 0 [] [] 0 p 70) rfl rfl 191 zeroPt HT3.out (by kernel_rfl) rfl (zAW _ _ _ _ _ _ _) ?_)
      try simp only [Exit.inBlock,Exit.then]
      refine bodyPost_ret (results_cell_row Tryz.results144 _ _ w.heap.size 191 (partC 0 0 [] [] 0 p 70) (0,0) _ rfl (setRow_heap _ _ _ _ _ _ HT3.out) Tryz.underlying191 rfl (by kernel_rfl)) rfl ?_
      unfold NPost;rw [HV.out];exact ⟨zAE HB3.out (Nat.le_refl _) _,rfl⟩
     ·have hpp:((k:Int) == (p:Int))=false:=by simp;omega
      have hp0:p<s.size:=by omega
      obtain ⟨y,HY⟩:∃ y,Hid (s.data.toList[p]? = some y):=⟨s.data.toList[p]'(by have:=HL.out;omega),List.getElem?_eq_getElem _⟩
      have hsy:s[p]=y:=zAv s p y HY.out hp0
      have y0:(0:Int)≤(p:Int):=by omega
      have y1:(p:Int)<s.size:=by omega
      have HYC:Hid (s.data.toList.drop p=y :: s.data.toList.drop (p+1)):=zAY HY.out
      have HNE:Hid ((s.data.toList.drop p).takeWhile digB≠[]):=fun e=>hD (by have:=congrArg List.length e;rw [hDD.out] at this;simp only [List.length_nil] at this;have:=hn.out;omega)
      by_cases h4:(4:Int)<(k:Int)-(p:Int)
      ·have HV:Hid (V=.bad 0 70):=by
        show _=_
        rw [← hV.out];unfold qnumber;simp only;by_cases hy:y=48
        ·rw [if_pos (.inr (.inl (by rw [HYC.out,hy];exact zA4 [48] _)))]
        ·have hno:∀ x u,(s.data.toList.drop p).takeWhile digB=x :: u→x.toNat≠48:=fun x u hxu=>by
          rw [HYC.out,List.takeWhile_cons] at hxu
          split at hxu
          ·injection hxu with hxu _
           rw [← hxu];exact fun e=>hy (UInt8.toNat.inj e)
          ·cases hxu
         rw [if_pos (.inr (.inr (by rw [zEC (zFC _) (by rw [hDD.out];have:=hn.out;omega) hno];decide)))]
       clear hD HX
       go_wp2_with fail;refine (zBh p 70 W1).mono ?_
       rintro e w3 ⟨rfl,hb3⟩;have HT3:=Lib.hid (zAB hb3 HT1.out)
       have HB3:=Lib.hid (HB1.out.trans (hb3.mono HB1.out.size))
       clear hb3
       go_wp2_with (refine wpList_store_row rfl 191 (.tmp 4) (.tmp 43) rfl w.heap.size (partC 0 0 [] [] 0 p 70) rfl rfl 191 zeroPt HT3.out (by kernel_rfl) rfl (zAW _ _ _ _ _ _ _) ?_)
       try simp only [Exit.inBlock,Exit.then]
       refine bodyPost_ret (results_cell_row Tryz.results144 _ _ w.heap.size 191 (partC 0 0 [] [] 0 p 70) (0,0) _ rfl (setRow_heap _ _ _ _ _ _ HT3.out) Tryz.underlying191 rfl (by kernel_rfl)) rfl ?_
       unfold NPost;rw [HV.out];exact ⟨zAE HB3.out (Nat.le_refl _) _,rfl⟩
      ·by_cases hy:y=48
       ·subst hy
        have HV:Hid (V=.bad 0 70):=by
         show _=_
         rw [← hV.out];unfold qnumber;simp only;rw [if_pos (.inr (.inl (by rw [HYC.out];exact zA4 [48] _)))]
        clear hD HX
        go_wp2_with fail;refine (zBh p 70 W1).mono ?_
        rintro e w3 ⟨rfl,hb3⟩;have HT3:=Lib.hid (zAB hb3 HT1.out)
        have HB3:=Lib.hid (HB1.out.trans (hb3.mono HB1.out.size))
        clear hb3
        go_wp2_with (refine wpList_store_row rfl 191 (.tmp 4) (.tmp 43) rfl w.heap.size (partC 0 0 [] [] 0 p 70) rfl rfl 191 zeroPt HT3.out (by kernel_rfl) rfl (zAW _ _ _ _ _ _ _) ?_)
        try simp only [Exit.inBlock,Exit.then]
        refine bodyPost_ret (results_cell_row Tryz.results144 _ _ w.heap.size 191 (partC 0 0 [] [] 0 p 70) (0,0) _ rfl (setRow_heap _ _ _ _ _ _ HT3.out) Tryz.underlying191 rfl (by kernel_rfl)) rfl ?_
        unfold NPost;rw [HV.out];exact ⟨zAE HB3.out (Nat.le_refl _) _,rfl⟩
       ·have hy48:((y.toNat:Int) == 48)=false:=zHV hy
        obtain ⟨D,hDe⟩:∃ D,Hid ((s.data.toList.drop p).takeWhile digB=D):=⟨_,rfl⟩
        have hDl:D.length=dl:=by rw [← hDe.out];exact hDD.out
        have hDd:∀ x∈D,digB x=true:=by rw [← hDe.out];exact zFC _
        have hshort:=zBc hDd (by have:=hn.out;omega)
        have HV:Hid (V=.ok (numN 0 D) dl):=by
         show _=_
         rw [← hV.out];unfold qnumber;simp only;rw [hDe.out,if_neg (by
          rintro (h | h | h)
          ·rw [h] at hDl;simp at hDl;have:=hn.out;omega
          ·rw [HYC.out] at h
           simp [pre] at h
           exact hy h
          ·omega),hshort.1,hDl]
        have HSP:Hid (s.data.toList.drop p=D++(s.data.toList.drop p).drop D.length):=by
         have h2:=zCG (s.data.toList.drop p) digB
         rw [hDe.out] at h2;exact h2
        have HDL:=Lib.hid hDl
        have HDD:=Lib.hid hDd
        have HK4:Hid (k≤p+4):=by show _≤_;omega
        clear hshort hDl hDd hD hy HX
        go_wp2_with fail
        go_loopw [6,7] (fun nv i wr=>∃ (j:Nat),p≤j∧j≤k∧i=.int .i64 (j:Int)∧nv=.int .i64 (numN 0 (D.take (j-p)))∧Hid (wr=W1)) (fun _ i _=>k-(intOf i).toNat)
        case atStart=>exact ⟨p,Nat.le_refl _,by omega,rfl,by rw [Nat.sub_self];rfl,rfl⟩
        case round =>
         obtain ⟨j,hj0,hjk,rfl,rfl,hwr⟩:=hrel
         have hwr':=hwr.out.symm
         subst hwr';have z0:(0:Int)≤(j:Int):=by omega
         have hsj:=zBc (d:=D.take (j-p)) (fun x hx=>HDD.out x (List.mem_of_mem_take hx)) (by have:=HK4.out;rw [List.length_take];omega)
         by_cases hjn:j<k
         ·have z1:(j:Int)<(k:Int):=by omega
          have hjs:j<s.size:=by omega
          have z2:(j:Int)<(s.size:Int):=by omega
          obtain ⟨x,HX⟩:∃ x,Hid (s.data.toList[j]? = some x):=⟨s.data.toList[j]'(by have:=HL.out;omega),List.getElem?_eq_getElem _⟩
          have hsx:s[j]=x:=zAv s j x HX.out hjs
          have hdx:D[j-p]? = some x:=by
           have h1:(s.data.toList.drop p)[j-p]? = some x:=by rw [List.getElem?_drop,show p+(j-p)=j by omega];exact HX.out
           rw [HSP.out,List.getElem?_append_left (by rw [HDL.out];have:=hn.out;omega)] at h1
           exact h1
          have hxd:=zBE (HDD.out x (List.mem_of_getElem? hdx))
          have HST:Hid (numN 0 (D.take (j+1-p))=numN 0 (D.take (j-p)) * 10+(x.toNat:Int)-48):=by
           show _=_
           rw [show j+1-p=(j-p)+1 by omega,List.take_add_one,hdx]
           show numN 0 (_++[x])=_
           rw [zCz];omega
          obtain ⟨vv,hvv⟩:∃ vv,Hid (numN 0 (D.take (j-p))=vv):=⟨_,rfl⟩
          rw [hvv.out] at hsj HST ⊢;obtain ⟨_,v0,v1⟩:=hsj
          obtain ⟨x0,x1⟩:=hxd
          have x2:(48:Int)≤(x.toNat:Int):=by omega
          have x3:(x.toNat:Int)≤57:=by omega
          clear hdx x0 x1
          go_wp2_with fail
          go_roundw
          case rel=>exact ⟨j+1,by omega,by omega,by go_num,by rw [HST.out],trivial⟩
          case measure=>simp [intOf];omega
         ·have hje:j=k:=by omega
          subst hje;have HTK:Hid (D.take (j-p)=D):=List.take_of_length_le (by rw [HDL.out];have:=hn.out;omega)
          rw [HTK.out];clear hsj
          go_wp2_with (refine wpList_store_row rfl 191 (.tmp 4) (.tmp 61) rfl w.heap.size (partC 1 (numN 0 D) [] [] j 0 0) rfl rfl 191 zeroPt HT1.out (by kernel_rfl) rfl (zAW _ _ _ _ _ _ _) ?_)
          try simp only [Exit.inBlock,Exit.then]
          refine bodyPost_ret (results_cell_row Tryz.results144 _ _ w.heap.size 191 (partC 1 (numN 0 D) [] [] j 0 0) (0,0) _ rfl (setRow_heap _ _ _ _ _ _ HT1.out) Tryz.underlying191 rfl (by kernel_rfl)) rfl ?_
          unfold NPost;rw [HV.out];exact ⟨zAE HB1.out (Nat.le_refl _) _,by
           show _=Ending.returned _
           rw [show ((p+dl:Nat):Int)=(j:Int) by have:=hn.out;omega]⟩
    ·clear hnd
     have hkn:k=n:=HIN.out
     subst hkn;clear hin;by_cases hD:k=p
     ·have hpp:((k:Int) == (p:Int))=true:=by simp;omega
      have HV:Hid (V=.bad 0 70):=by
       show _=_
       rw [← hV.out];unfold qnumber;simp only;rw [if_pos (.inl (List.eq_nil_of_length_eq_zero (by rw [hDD.out];have:=hn.out;omega)))]
      clear hD HX
      go_wp2_with fail;refine (zBh p 70 W1).mono ?_
      rintro e w3 ⟨rfl,hb3⟩;have HT3:=Lib.hid (zAB hb3 HT1.out)
      have HB3:=Lib.hid (HB1.out.trans (hb3.mono HB1.out.size))
      clear hb3
      go_wp2_with (refine wpList_store_row rfl 191 (.tmp 4) (.tmp 43) rfl w.heap.size (partC 0 0 [] [] 0 p 70) rfl rfl 191 zeroPt HT3.out (by kernel_rfl) rfl (zAW _ _ _ _ _ _ _) ?_)
      try simp only [Exit.inBlock,Exit.then]
      refine bodyPost_ret (results_cell_row Tryz.results144 _ _ w.heap.size 191 (partC 0 0 [] [] 0 p 70) (0,0) _ rfl (setRow_heap _ _ _ _ _ _ HT3.out) Tryz.underlying191 rfl (by kernel_rfl)) rfl ?_
      unfold NPost;rw [HV.out];exact ⟨zAE HB3.out (Nat.le_refl _) _,rfl⟩
     ·have hpp:((k:Int) == (p:Int))=false:=by simp;omega
      have hp0:p<s.size:=by omega
      obtain ⟨y,HY⟩:∃ y,Hid (s.data.toList[p]? = some y):=⟨s.data.toList[p]'(by have:=HL.out;omega),List.getElem?_eq_getElem _⟩
      have hsy:s[p]=y:=zAv s p y HY.out hp0
      have y0:(0:Int)≤(p:Int):=by omega
      have y1:(p:Int)<s.size:=by omega
      have HYC:Hid (s.data.toList.drop p=y :: s.data.toList.drop (p+1)):=zAY HY.out
      have HNE:Hid ((s.data.toList.drop p).takeWhile digB≠[]):=fun e=>hD (by have:=congrArg List.length e;rw [hDD.out] at this;simp only [List.length_nil] at this;have:=hn.out;omega)
      by_cases h4:(4:Int)<(k:Int)-(p:Int)
      ·have HV:Hid (V=.bad 0 70):=by
        show _=_
        rw [← hV.out];unfold qnumber;simp only;by_cases hy:y=48
        ·rw [if_pos (.inr (.inl (by rw [HYC.out,hy];exact zA4 [48] _)))]
        ·have hno:∀ x u,(s.data.toList.drop p).takeWhile digB=x :: u→x.toNat≠48:=fun x u hxu=>by
          rw [HYC.out,List.takeWhile_cons] at hxu
          split at hxu
          ·injection hxu with hxu _
           rw [← hxu];exact fun e=>hy (UInt8.toNat.inj e)
          ·cases hxu
         rw [if_pos (.inr (.inr (by rw [zEC (zFC _) (by rw [hDD.out];have:=hn.out;omega) hno];decide)))]
       clear hD HX
       go_wp2_with fail;refine (zBh p 70 W1).mono ?_
       rintro e w3 ⟨rfl,hb3⟩;have HT3:=Lib.hid (zAB hb3 HT1.out)
       have HB3:=Lib.hid (HB1.out.trans (hb3.mono HB1.out.size))
       clear hb3
       go_wp2_with (refine wpList_store_row rfl 191 (.tmp 4) (.tmp 43) rfl w.heap.size (partC 0 0 [] [] 0 p 70) rfl rfl 191 zeroPt HT3.out (by kernel_rfl) rfl (zAW _ _ _ _ _ _ _) ?_)
       try simp only [Exit.inBlock,Exit.then]
       refine bodyPost_ret (results_cell_row Tryz.results144 _ _ w.heap.size 191 (partC 0 0 [] [] 0 p 70) (0,0) _ rfl (setRow_heap _ _ _ _ _ _ HT3.out) Tryz.underlying191 rfl (by kernel_rfl)) rfl ?_
       unfold NPost;rw [HV.out];exact ⟨zAE HB3.out (Nat.le_refl _) _,rfl⟩
      ·by_cases hy:y=48
       ·subst hy
        have HV:Hid (V=.bad 0 70):=by
         show _=_
         rw [← hV.out];unfold qnumber;simp only;rw [if_pos (.inr (.inl (by rw [HYC.out];exact zA4 [48] _)))]
        clear hD HX
        go_wp2_with fail;refine (zBh p 70 W1).mono ?_
        rintro e w3 ⟨rfl,hb3⟩;have HT3:=Lib.hid (zAB hb3 HT1.out)
        have HB3:=Lib.hid (HB1.out.trans (hb3.mono HB1.out.size))
        clear hb3
        go_wp2_with (refine wpList_store_row rfl 191 (.tmp 4) (.tmp 43) rfl w.heap.size (partC 0 0 [] [] 0 p 70) rfl rfl 191 zeroPt HT3.out (by kernel_rfl) rfl (zAW _ _ _ _ _ _ _) ?_)
        try simp only [Exit.inBlock,Exit.then]
        refine bodyPost_ret (results_cell_row Tryz.results144 _ _ w.heap.size 191 (partC 0 0 [] [] 0 p 70) (0,0) _ rfl (setRow_heap _ _ _ _ _ _ HT3.out) Tryz.underlying191 rfl (by kernel_rfl)) rfl ?_
        unfold NPost;rw [HV.out];exact ⟨zAE HB3.out (Nat.le_refl _) _,rfl⟩
       ·have hy48:((y.toNat:Int) == 48)=false:=zHV hy
        obtain ⟨D,hDe⟩:∃ D,Hid ((s.data.toList.drop p).takeWhile digB=D):=⟨_,rfl⟩
        have hDl:D.length=dl:=by rw [← hDe.out];exact hDD.out
        have hDd:∀ x∈D,digB x=true:=by rw [← hDe.out];exact zFC _
        have hshort:=zBc hDd (by have:=hn.out;omega)
        have HV:Hid (V=.ok (numN 0 D) dl):=by
         show _=_
         rw [← hV.out];unfold qnumber;simp only;rw [hDe.out,if_neg (by
          rintro (h | h | h)
          ·rw [h] at hDl;simp at hDl;have:=hn.out;omega
          ·rw [HYC.out] at h
           simp [pre] at h
           exact hy h
          ·omega),hshort.1,hDl]
        have HSP:Hid (s.data.toList.drop p=D++(s.data.toList.drop p).drop D.length):=by
         have h2:=zCG (s.data.toList.drop p) digB
         rw [hDe.out] at h2;exact h2
        have HDL:=Lib.hid hDl
        have HDD:=Lib.hid hDd
        have HK4:Hid (k≤p+4):=by show _≤_;omega
        clear hshort hDl hDd hD hy HX
        go_wp2_with fail
        go_loopw [6,7] (fun nv i wr=>∃ (j:Nat),p≤j∧j≤k∧i=.int .i64 (j:Int)∧nv=.int .i64 (numN 0 (D.take (j-p)))∧Hid (wr=W1)) (fun _ i _=>k-(intOf i).toNat)
        case atStart=>exact ⟨p,Nat.le_refl _,by omega,rfl,by rw [Nat.sub_self];rfl,rfl⟩
        case round =>
         obtain ⟨j,hj0,hjk,rfl,rfl,hwr⟩:=hrel
         have hwr':=hwr.out.symm
         subst hwr';have z0:(0:Int)≤(j:Int):=by omega
         have hsj:=zBc (d:=D.take (j-p)) (fun x hx=>HDD.out x (List.mem_of_mem_take hx)) (by have:=HK4.out;rw [List.length_take];omega)
         by_cases hjn:j<k
         ·have z1:(j:Int)<(k:Int):=by omega
          have hjs:j<s.size:=by omega
          have z2:(j:Int)<(s.size:Int):=by omega
          obtain ⟨x,HX⟩:∃ x,Hid (s.data.toList[j]? = some x):=⟨s.data.toList[j]'(by have:=HL.out;omega),List.getElem?_eq_getElem _⟩
          have hsx:s[j]=x:=zAv s j x HX.out hjs
          have hdx:D[j-p]? = some x:=by
           have h1:(s.data.toList.drop p)[j-p]? = some x:=by rw [List.getElem?_drop,show p+(j-p)=j by omega];exact HX.out
           rw [HSP.out,List.getElem?_append_left (by rw [HDL.out];have:=hn.out;omega)] at h1
           exact h1
          have hxd:=zBE (HDD.out x (List.mem_of_getElem? hdx))
          have HST:Hid (numN 0 (D.take (j+1-p))=numN 0 (D.take (j-p)) * 10+(x.toNat:Int)-48):=by
           show _=_
           rw [show j+1-p=(j-p)+1 by omega,List.take_add_one,hdx]
           show numN 0 (_++[x])=_
           rw [zCz];omega
          obtain ⟨vv,hvv⟩:∃ vv,Hid (numN 0 (D.take (j-p))=vv):=⟨_,rfl⟩
          rw [hvv.out] at hsj HST ⊢;obtain ⟨_,v0,v1⟩:=hsj
          obtain ⟨x0,x1⟩:=hxd
          have x2:(48:Int)≤(x.toNat:Int):=by omega
          have x3:(x.toNat:Int)≤57:=by omega
          clear hdx x0 x1
          go_wp2_with fail
          go_roundw
          case rel=>exact ⟨j+1,by omega,by omega,by go_num,by rw [HST.out],trivial⟩
          case measure=>simp [intOf];omega
         ·have hje:j=k:=by omega
          subst hje;have HTK:Hid (D.take (j-p)=D):=List.take_of_length_le (by rw [HDL.out];have:=hn.out;omega)
          rw [HTK.out];clear hsj
          go_wp2_with (refine wpList_store_row rfl 191 (.tmp 4) (.tmp 61) rfl w.heap.size (partC 1 (numN 0 D) [] [] j 0 0) rfl rfl 191 zeroPt HT1.out (by kernel_rfl) rfl (zAW _ _ _ _ _ _ _) ?_)
          try simp only [Exit.inBlock,Exit.then]
          refine bodyPost_ret (results_cell_row Tryz.results144 _ _ w.heap.size 191 (partC 1 (numN 0 D) [] [] j 0 0) (0,0) _ rfl (setRow_heap _ _ _ _ _ _ HT1.out) Tryz.underlying191 rfl (by kernel_rfl)) rfl ?_
          unfold NPost;rw [HV.out];exact ⟨zAE HB1.out (Nat.le_refl _) _,by
           show _=Ending.returned _
           rw [show ((p+dl:Nat):Int)=(j:Int) by have:=hn.out;omega]⟩
  ·have HIN:Hid (k=n):=by
    show _=_
    rw [← hin.out,List.drop_eq_nil_of_le (by rw [HL.out];omega)]
    rfl
   have j1:¬ (k:Int)<(s.size:Int):=by omega
   have hkn:k=n:=HIN.out
   subst hkn;clear hin;by_cases hD:k=p
   ·have hpp:((k:Int) == (p:Int))=true:=by simp;omega
    have HV:Hid (V=.bad 0 70):=by
     show _=_
     rw [← hV.out];unfold qnumber;simp only;rw [if_pos (.inl (List.eq_nil_of_length_eq_zero (by rw [hDD.out];have:=hn.out;omega)))]
    clear hD hk0
    go_wp2_with fail;refine (zBh p 70 W1).mono ?_
    rintro e w3 ⟨rfl,hb3⟩;have HT3:=Lib.hid (zAB hb3 HT1.out)
    have HB3:=Lib.hid (HB1.out.trans (hb3.mono HB1.out.size))
    clear hb3
    go_wp2_with (refine wpList_store_row rfl 191 (.tmp 4) (.tmp 43) rfl w.heap.size (partC 0 0 [] [] 0 p 70) rfl rfl 191 zeroPt HT3.out (by kernel_rfl) rfl (zAW _ _ _ _ _ _ _) ?_)
    try simp only [Exit.inBlock,Exit.then]
    refine bodyPost_ret (results_cell_row Tryz.results144 _ _ w.heap.size 191 (partC 0 0 [] [] 0 p 70) (0,0) _ rfl (setRow_heap _ _ _ _ _ _ HT3.out) Tryz.underlying191 rfl (by kernel_rfl)) rfl ?_
    unfold NPost;rw [HV.out];exact ⟨zAE HB3.out (Nat.le_refl _) _,rfl⟩
   ·have hpp:((k:Int) == (p:Int))=false:=by simp;omega
    have hp0:p<s.size:=by omega
    obtain ⟨y,HY⟩:∃ y,Hid (s.data.toList[p]? = some y):=⟨s.data.toList[p]'(by have:=HL.out;omega),List.getElem?_eq_getElem _⟩
    have hsy:s[p]=y:=zAv s p y HY.out hp0
    have y0:(0:Int)≤(p:Int):=by omega
    have y1:(p:Int)<s.size:=by omega
    have HYC:Hid (s.data.toList.drop p=y :: s.data.toList.drop (p+1)):=zAY HY.out
    have HNE:Hid ((s.data.toList.drop p).takeWhile digB≠[]):=fun e=>hD (by have:=congrArg List.length e;rw [hDD.out] at this;simp only [List.length_nil] at this;have:=hn.out;omega)
    by_cases h4:(4:Int)<(k:Int)-(p:Int)
    ·have HV:Hid (V=.bad 0 70):=by
      show _=_
      rw [← hV.out];unfold qnumber;simp only;by_cases hy:y=48
      ·rw [if_pos (.inr (.inl (by rw [HYC.out,hy];exact zA4 [48] _)))]
      ·have hno:∀ x u,(s.data.toList.drop p).takeWhile digB=x :: u→x.toNat≠48:=fun x u hxu=>by
        rw [HYC.out,List.takeWhile_cons] at hxu
        split at hxu
        ·injection hxu with hxu _
         rw [← hxu];exact fun e=>hy (UInt8.toNat.inj e)
        ·cases hxu
       rw [if_pos (.inr (.inr (by rw [zEC (zFC _) (by rw [hDD.out];have:=hn.out;omega) hno];decide)))]
     clear hD hk0
     go_wp2_with fail;refine (zBh p 70 W1).mono ?_
     rintro e w3 ⟨rfl,hb3⟩;have HT3:=Lib.hid (zAB hb3 HT1.out)
     have HB3:=Lib.hid (HB1.out.trans (hb3.mono HB1.out.size))
     clear hb3
     go_wp2_with (refine wpList_store_row rfl 191 (.tmp 4) (.tmp 43) rfl w.heap.size (partC 0 0 [] [] 0 p 70) rfl rfl 191 zeroPt HT3.out (by kernel_rfl) rfl (zAW _ _ _ _ _ _ _) ?_)
     try simp only [Exit.inBlock,Exit.then]
     refine bodyPost_ret (results_cell_row Tryz.results144 _ _ w.heap.size 191 (partC 0 0 [] [] 0 p 70) (0,0) _ rfl (setRow_heap _ _ _ _ _ _ HT3.out) Tryz.underlying191 rfl (by kernel_rfl)) rfl ?_
     unfold NPost;rw [HV.out];exact ⟨zAE HB3.out (Nat.le_refl _) _,rfl⟩
    ·by_cases hy:y=48
     ·subst hy
      have HV:Hid (V=.bad 0 70):=by
       show _=_
       rw [← hV.out];unfold qnumber;simp only;rw [if_pos (.inr (.inl (by rw [HYC.out];exact zA4 [48] _)))]
      clear hD hk0
      go_wp2_with fail;refine (zBh p 70 W1).mono ?_
      rintro e w3 ⟨rfl,hb3⟩;have HT3:=Lib.hid (zAB hb3 HT1.out)
      have HB3:=Lib.hid (HB1.out.trans (hb3.mono HB1.out.size))
      clear hb3
      go_wp2_with (refine wpList_store_row rfl 191 (.tmp 4) (.tmp 43) rfl w.heap.size (partC 0 0 [] [] 0 p 70) rfl rfl 191 zeroPt HT3.out (by kernel_rfl) rfl (zAW _ _ _ _ _ _ _) ?_)
      try simp only [Exit.inBlock,Exit.then]
      refine bodyPost_ret (results_cell_row Tryz.results144 _ _ w.heap.size 191 (partC 0 0 [] [] 0 p 70) (0,0) _ rfl (setRow_heap _ _ _ _ _ _ HT3.out) Tryz.underlying191 rfl (by kernel_rfl)) rfl ?_
      unfold NPost;rw [HV.out];exact ⟨zAE HB3.out (Nat.le_refl _) _,rfl⟩
     ·have hy48:((y.toNat:Int) == 48)=false:=zHV hy
      obtain ⟨D,hDe⟩:∃ D,Hid ((s.data.toList.drop p).takeWhile digB=D):=⟨_,rfl⟩
      have hDl:D.length=dl:=by rw [← hDe.out];exact hDD.out
      have hDd:∀ x∈D,digB x=true:=by rw [← hDe.out];exact zFC _
      have hshort:=zBc hDd (by have:=hn.out;omega)
      have HV:Hid (V=.ok (numN 0 D) dl):=by
       show _=_
       rw [← hV.out];unfold qnumber;simp only;rw [hDe.out,if_neg (by
        rintro (h | h | h)
        ·rw [h] at hDl;simp at hDl;have:=hn.out;omega
        ·rw [HYC.out] at h
         simp [pre] at h
         exact hy h
        ·omega),hshort.1,hDl]
      have HSP:Hid (s.data.toList.drop p=D++(s.data.toList.drop p).drop D.length):=by
       have h2:=zCG (s.data.toList.drop p) digB
       rw [hDe.out] at h2;exact h2
      have HDL:=Lib.hid hDl
      have HDD:=Lib.hid hDd
      have HK4:Hid (k≤p+4):=by show _≤_;omega
      clear hshort hDl hDd hD hy hk0
      go_wp2_with fail
      go_loopw [6,7] (fun nv i wr=>∃ (j:Nat),p≤j∧j≤k∧i=.int .i64 (j:Int)∧nv=.int .i64 (numN 0 (D.take (j-p)))∧Hid (wr=W1)) (fun _ i _=>k-(intOf i).toNat)
      case atStart=>exact ⟨p,Nat.le_refl _,by omega,rfl,by rw [Nat.sub_self];rfl,rfl⟩
      case round =>
       obtain ⟨j,hj0,hjk,rfl,rfl,hwr⟩:=hrel
       have hwr':=hwr.out.symm
       subst hwr';have z0:(0:Int)≤(j:Int):=by omega
       have hsj:=zBc (d:=D.take (j-p)) (fun x hx=>HDD.out x (List.mem_of_mem_take hx)) (by have:=HK4.out;rw [List.length_take];omega)
       by_cases hjn:j<k
       ·have z1:(j:Int)<(k:Int):=by omega
        have hjs:j<s.size:=by omega
        have z2:(j:Int)<(s.size:Int):=by omega
        obtain ⟨x,HX⟩:∃ x,Hid (s.data.toList[j]? = some x):=⟨s.data.toList[j]'(by have:=HL.out;omega),List.getElem?_eq_getElem _⟩
        have hsx:s[j]=x:=zAv s j x HX.out hjs
        have hdx:D[j-p]? = some x:=by
         have h1:(s.data.toList.drop p)[j-p]? = some x:=by rw [List.getElem?_drop,show p+(j-p)=j by omega];exact HX.out
         rw [HSP.out,List.getElem?_append_left (by rw [HDL.out];have:=hn.out;omega)] at h1
         exact h1
        have hxd:=zBE (HDD.out x (List.mem_of_getElem? hdx))
        have HST:Hid (numN 0 (D.take (j+1-p))=numN 0 (D.take (j-p)) * 10+(x.toNat:Int)-48):=by
         show _=_
         rw [show j+1-p=(j-p)+1 by omega,List.take_add_one,hdx]
         show numN 0 (_++[x])=_
         rw [zCz];omega
        obtain ⟨vv,hvv⟩:∃ vv,Hid (numN 0 (D.take (j-p))=vv):=⟨_,rfl⟩
        rw [hvv.out] at hsj HST ⊢;obtain ⟨_,v0,v1⟩:=hsj
        obtain ⟨x0,x1⟩:=hxd
        have x2:(48:Int)≤(x.toNat:Int):=by omega
        have x3:(x.toNat:Int)≤57:=by omega
        clear hdx x0 x1
        go_wp2_with fail
        go_roundw
        case rel=>exact ⟨j+1,by omega,by omega,by go_num,by rw [HST.out],trivial⟩
        case measure=>simp [intOf];omega
       ·have hje:j=k:=by omega
        subst hje;have HTK:Hid (D.take (j-p)=D):=List.take_of_length_le (by rw [HDL.out];have:=hn.out;omega)
        rw [HTK.out];clear hsj
        go_wp2_with (refine wpList_store_row rfl 191 (.tmp 4) (.tmp 61) rfl w.heap.size (partC 1 (numN 0 D) [] [] j 0 0) rfl rfl 191 zeroPt HT1.out (by kernel_rfl) rfl (zAW _ _ _ _ _ _ _) ?_)
        try simp only [Exit.inBlock,Exit.then]
        refine bodyPost_ret (results_cell_row Tryz.results144 _ _ w.heap.size 191 (partC 1 (numN 0 D) [] [] j 0 0) (0,0) _ rfl (setRow_heap _ _ _ _ _ _ HT1.out) Tryz.underlying191 rfl (by kernel_rfl)) rfl ?_
        unfold NPost;rw [HV.out];exact ⟨zAE HB1.out (Nat.le_refl _) _,by
         show _=Ending.returned _
         rw [show ((p+dl:Nat):Int)=(j:Int) by have:=hn.out;omega]⟩
end
end Go.Proofs.YtcombcoilpmnkaaGreat

/-
  Texts of this claim, joined (by a program of the claim's author): Parts, Place, Check, GLoad, GFor, GInse, GMovT.
-/
import Derived.Test.YtcombcoilpmnkaaGreatWF2
import Derived.Test.YtcombcoilpmnkaaGreatWF1
import Derived.Deep.RegionHeld3
import Derived.Test.YtcombcoilpmnkaaGreatWF5
import Derived.Test.YtcombcoilpmnkaaGreatWF4
import Derived.Deep.Cut
import Derived.Deep.QuietTactic
import Derived.BigQuiet
import Derived.Test.YtcombcoilpmnkaaGreatWF3
namespace Go.Proofs.YtcombcoilpmnkaaGreat
set_option maxRecDepth 100000
set_option maxHeartbeats 16000000
section
open Go.RowKit
theorem zGd (x:ItemD) (A:Option Addr) (c:Nat) (w:World) (hA:AttrsAt w w.heap.size A x.attrs) (hs:SmallItem x) (V:Int) (hV:Hid (partsE x=V)) :
  Calls Tryz.prog 69 #[.agg (itemVal x A c)] w (Ret w (.int .i64 V)):=by
 have HSM:=Lib.hid hs
 obtain ⟨hs1,hs2,hs3,hs4,hs5⟩:=hs
 have HS4:=Lib.hid hs4
 have HA:=Lib.hid hA
 clear hs4 hA hs5;have hV':=hV.out
 unfold partsE at hV';clear hV;by_cases h1:x.kind=2∧x.name=[]∧x.attrs=[]
 ·rw [if_pos h1] at hV'
  obtain ⟨k1,k2,k3⟩:=h1
  have HV:=Lib.hid hV'
  have e1:(x.kind == 2)=true:=by rw [k1];rfl
  have e2:(x.name == [])=true:=by rw [k2];rfl
  have e3:x.attrs.length=0:=by rw [k3];rfl
  unfold itemVal strV;rw [k2,e3,k1];clear k1 k2 k3 e1 e2 e3 hV'
  go_enter Tryz.func69,Tryz.ntmps69
  go_wp2_with fail;refine (zJO _ _ hs2 _ HV).mono ?_;rintro e w2 ⟨rfl,hb2⟩
  go_wp2_with fail
  go_ret;exact ⟨rfl,((Below.refl _ w).alloc (Nat.le_refl _) _).trans (hb2.mono (by simp))⟩
 ·rw [if_neg h1] at hV'
  by_cases h2:x.kind≠1∨x.text≠[]
  ·rw [if_pos h2] at hV'
   have hv:Hid (V=68):=hV'.symm
   clear hV';by_cases k2:x.kind=2
   ·have e1:(x.kind == 2)=true:=by simp [k2]
    have e4:(x.kind != 1)=true:=by simp [k2]
    by_cases k3:x.name=[]
    ·have e2:(x.name == [])=true:=by simp [k3]
     have e3:((x.attrs.length:Int) == 0)=false:=by
      have:x.attrs≠[]:=fun h=>h1 ⟨k2,k3,h⟩
      have:x.attrs.length≠0:=fun h=>this (List.eq_nil_of_length_eq_zero h)
      simp;omega
     clear h1 h2 k2 k3;unfold itemVal strV
     go_enter Tryz.func69,Tryz.ntmps69
     go_wp2_with fail
     go_ret;exact ⟨by rw [hv.out];rfl,(Below.refl _ w).alloc (Nat.le_refl _) _⟩
    ·have e2:(x.name == [])=false:=by simp [k3]
     clear h1 h2 k2 k3;unfold itemVal strV
     go_enter Tryz.func69,Tryz.ntmps69
     go_wp2_with fail
     go_ret;exact ⟨by rw [hv.out];rfl,(Below.refl _ w).alloc (Nat.le_refl _) _⟩
   ·have e1:(x.kind == 2)=false:=by simp [k2]
    by_cases k3:x.kind=1
    ·have e4:(x.kind != 1)=false:=by simp [k3]
     have e5:(x.text == [])=false:=by
      have:x.text≠[]:=h2.resolve_left (fun h=>h k3)
      simp [this]
     clear h1 h2 k2 k3;unfold itemVal strV
     go_enter Tryz.func69,Tryz.ntmps69
     go_wp2_with fail
     go_ret;exact ⟨by rw [hv.out];rfl,(Below.refl _ w).alloc (Nat.le_refl _) _⟩
    ·have e4:(x.kind != 1)=true:=by simp [k3]
     clear h1 h2 k2 k3;unfold itemVal strV
     go_enter Tryz.func69,Tryz.ntmps69
     go_wp2_with fail
     go_ret;exact ⟨by rw [hv.out];rfl,(Below.refl _ w).alloc (Nat.le_refl _) _⟩
  ·rw [if_neg h2] at hV'
   have k1:x.kind=1:=Decidable.of_not_not fun h=>h2 (.inl h)
   have k5:x.text=[]:=Decidable.of_not_not fun h=>h2 (.inr h)
   have e1:(x.kind == 2)=false:=by simp [k1]
   have e4:(x.kind != 1)=false:=by simp [k1]
   have e5:(x.text == [])=true:=by simp [k5]
   clear h1 h2 k1 k5;obtain ⟨E,hE⟩:∃ E,Hid (namesE x=E):=⟨_,rfl⟩
   rw [hE.out] at hV';have HV:=Lib.hid hV'
   clear hV';have HN:∀ w1:World,Below w.heap.size w w1→Calls Tryz.prog 104 #[.agg (itemVal x A c)] w1 (Ret w1 (.int .i64 E)) :=
    fun w1 hb=>zJt x A c w1 ((HA.out.below hb).more hb.size) HSM.out E hE
   have HNH:=Lib.hid HN
   clear HN;unfold itemVal strV at *
   go_enter Tryz.func69,Tryz.ntmps69
   go_wp2_with fail;obtain ⟨w1,hw1⟩:∃ w1,Hid (w1=w.alloc (.cells #[.int .i64 x.level,.int .i64 x.kind,.string ⟨x.name.toArray⟩,.string ⟨x.text.toArray⟩,.slice A x.attrs.length c] 75)):=⟨_,rfl⟩
   have hbw1:Below w.heap.size w w1:=by rw [hw1.out];exact (Below.refl _ w).alloc (Nat.le_refl _) _
   have hz1:w.heap.size<w1.heap.size:=by rw [hw1.out];simp
   have hcell1:Hid (w1.cell? ⟨w.heap.size,4,none⟩=some (.slice A x.attrs.length c)):=by
    show _=_
    rw [hw1.out,World.cell?_alloc_at _ _ _ _ (by simp)];rfl
   rw [← hw1.out];refine (HNH.out w1 hbw1).mono ?_;rintro e w2 ⟨rfl,hb2⟩;have hz2:=hb2.size
   have hc4:w2.cell? ⟨w.heap.size,4,none⟩=some (.slice A x.attrs.length c):=by
    rw [hb2.cell (p:=⟨w.heap.size,4,none⟩) hz1];exact hcell1.out
   go_wp2_with fail
   go_loopw [3,38] (fun ev i wr=>∃ (k:Nat) (f:Int),k≤x.attrs.length∧i=.int .i64 k∧ev=.int .i64 f∧Hid ((if f=0 then valuesE (x.attrs.drop k) else f)=V)∧Below w2.heap.size w2 wr) (fun _ i _=>x.attrs.length-(intOf i).toNat)
   case atStart=>exact ⟨0,E,Nat.zero_le _,rfl,rfl,HV,Below.refl _ _⟩
   case round =>
    obtain ⟨k,f,hk,rfl,rfl,hin,hbel⟩:=hrel
    have hzr:=hbel.size
    have hbwr:Below w.heap.size w wr:=(hbw1.trans (hb2.mono (by omega))).trans (hbel.mono (by omega))
    by_cases hlt:k<x.attrs.length
    ·obtain ⟨a,ha⟩:∃ a,Hid (x.attrs[k]? = some a):=⟨x.attrs[k],List.getElem?_eq_getElem _⟩
     obtain ⟨ad,hAd,hbl,hcs⟩:=(HA.out.below hbwr) (by omega)
     obtain ⟨hc0,hc1⟩:=hcs k a ha.out
     unfold strV at hc0 hc1;clear hcs;have hin':=hin.out
     rw [zAY ha.out,valuesE] at hin';have hnm:=(HS4.out k a ha.out).2
     subst hAd;have hlt':(k:Int)<x.attrs.length:=by omega
     by_cases hf:f=0
     ·rw [if_pos hf] at hin'
      subst hf;obtain ⟨q,hq⟩:∃ q,Hid (charsE a.value=q):=⟨_,rfl⟩
      rw [hq.out] at hin';have hv:Hid ((if q=0 then valuesE (x.attrs.drop (k+1)) else q)=V):=hin'
      clear hin'
      go_wp2_with fail;refine (zJO _ _ hnm _ hq).mono ?_;rintro e w3 ⟨rfl,hb3⟩;have hz3:=hb3.size
      simp only [World.size_alloc] at hz3
      go_wp2_with fail
      go_roundw
      case rel=>exact ⟨k+1,q,by omega,by go_num,rfl,hv,(hbel.alloc (by omega) _).trans (hb3.mono (by simp;omega))⟩
      case measure=>simp [intOf];omega
     ·rw [if_neg hf] at hin'
      have hv:Hid ((if f=0 then valuesE (x.attrs.drop (k+1)) else f)=V):=by show _=_;rw [if_neg hf];exact hin'
      clear hin';have ef:(f == 0)=false:=by simp [hf]
      clear hf
      go_wp2_with fail
      go_roundw
      case rel=>exact ⟨k+1,f,by omega,by go_num,rfl,hv,hbel.alloc (by omega) _⟩
      case measure=>simp [intOf];omega
    ·have hk':k=x.attrs.length:=by omega
     have hv:Hid (V=f):=by
      show _=_
      rw [← hin.out,List.drop_eq_nil_of_le (by omega)]
      simp only [valuesE]
      split <;> simp_all
     subst hk'
     go_wp2_with fail
     go_ret;exact ⟨by rw [hv.out];rfl,hbwr⟩
end
section
open Go.RowKit
theorem ItemsAt.item {w:World} {B:Nat} {ad:Addr} {l:List ItemD} (h:ItemsAt w B (some ad) l) {k:Nat} {x:ItemD} (hx:l[k]? = some x):ad.block<B ∧ ∃ A' c,AttrsAt w B A' x.attrs∧x.attrs.length≤c ∧
  w.cell? (ad.add (k * 5))=some (.int .i64 x.level)∧w.cell? ⟨(ad.add (k * 5)).block,(ad.add (k * 5)).off+1,none⟩=some (.int .i64 x.kind)∧w.cell? ⟨(ad.add (k * 5)).block,(ad.add (k * 5)).off+2,none⟩=some (strV x.name) ∧
  w.cell? ⟨(ad.add (k * 5)).block,(ad.add (k * 5)).off+3,none⟩=some (strV x.text)∧w.cell? ⟨(ad.add (k * 5)).block,(ad.add (k * 5)).off+4,none⟩=some (.slice A' x.attrs.length c):=by
 obtain ⟨ad',e,hb,hc⟩:=h (by have:=(List.getElem?_eq_some_iff.1 hx).1;omega)
 injection e with e;subst e
 exact ⟨hb,hc k x hx⟩
theorem zHI (l:List ItemD) (ad:Addr) (c:Nat) (x:ItemD) (w:World) (hA:ItemsAt w w.heap.size (some ad) l) (hx:l[0]? = some x) (_hlen:l.length≤1000000000) (V:Int) (hV:Hid (placeE none 0 x=V)) :
  Calls Tryz.prog 68 #[.slice (some ad) l.length c,.int .i64 0] w (Ret w (.int .i64 V)):=by
 have hl:0<l.length:=(List.getElem?_eq_some_iff.1 hx).1
 obtain ⟨hbl,A',c',hat,_,h0,h1,h2,h3,h4⟩:=hA.item hx
 unfold strV at h2 h3;have ez:ad.add (0 * 5)=ad:=by unfold Addr.add;simp
 rw [ez] at h0 h1 h2 h3 h4;have HAT:=Lib.hid hat
 have hV':=hV.out
 clear hA hx ez hat hV;by_cases c1:x.level≠0∨x.kind≠1
 ·have hv:Hid (69=V):=by
   show _=_
   rw [← hV'];unfold placeE;exact (if_pos c1).symm
  clear hV';by_cases c2:x.level=0
  ·have d1:(x.level != 0)=false:=by simp [c2]
   have d2:(x.kind != 1)=true:=by simp;omega
   clear c1 c2
   go_enter Tryz.func68,Tryz.ntmps68
   go_wp2_with fail
   go_ret;exact ⟨by rw [← hv.out];rfl,(Below.refl _ w).alloc (Nat.le_refl _) _⟩
  ·have d1:(x.level != 0)=true:=by simp [c2]
   clear c1 c2
   go_enter Tryz.func68,Tryz.ntmps68
   go_wp2_with fail
   go_ret;exact ⟨by rw [← hv.out];rfl,(Below.refl _ w).alloc (Nat.le_refl _) _⟩
 ·have hl0:x.level=0:=by omega
  have hk1:x.kind=1:=by omega
  have hv:Hid (0=V):=by
   show _=_
   rw [← hV'];unfold placeE;exact (if_neg c1).symm
  have d1:(x.level != 0)=false:=by simp [hl0]
  have d2:(x.kind != 1)=false:=by simp [hk1]
  have l0:x.level≤0:=by omega
  clear hV' c1 hk1 hl0
  go_enter Tryz.func68,Tryz.ntmps68
  go_wp2_with fail;refine wp_region_held_drew (S:=fun _=>True) (by kernel_rfl) trivial (fun hHeld=>?_)
  refine tkv 0 (h:=tkv 1 (h:=tkv 2 (h:=?_)))
  refine tkn 3 (h:=tkn 4 (h:=tkn 5 (h:=tkn 6 (h:=tkn 7 (h:=tkn 8 (h:=?_))))))
  refine tkn 9 (h:=tkn 10 (h:=tkn 11 (h:=tkn 12 (h:=tkn 13 (h:=tkn 14 (h:=?_))))))
  refine tkn 15 (h:=tkn 16 (h:=tkn 17 (h:=tkn 18 (h:=tkn 19 (h:=tkn 20 (h:=?_))))))
  refine tkn 21 (h:=tkn 22 (h:=tkn 23 (h:=tkn 24 (h:=tkn 25 (h:=tkn 26 (h:=?_))))))
  refine tkn 27 (h:=tkn 28 (h:=tkn 29 (h:=tkn 30 (h:=tkn 31 (h:=tkn 32 (h:=?_))))))
  refine tkn 33 (h:=tkn 34 (h:=tkn 35 (h:=tkn 36 (h:=tkn 37 (h:=?_)))))
  refine tkv 38 (h:=tkv 39 (h:=?_))
  refine wpAnyH_done (by kernel_rfl) ?_ _
  go_wp2_with fail
  go_ret;exact ⟨by rw [← hv.out];rfl,((Below.refl _ w).alloc (Nat.le_refl _) _).drew⟩
theorem zHJ (l:List ItemD) (ad:Addr) (c k:Nat) (x p:ItemD) (w:World) (hA:ItemsAt w w.heap.size (some ad) l) (hk0:0<k) (hx:l[k]? = some x) (hp:l[k-1]? = some p) (hlen:l.length≤1000000000) (hpl:-9000000000000000000≤p.level∧p.level≤9000000000000000000) (V:Int) (hV:Hid (placeE (some p) k x=V)) :
  Calls Tryz.prog 68 #[.slice (some ad) l.length c,.int .i64 k] w (Ret w (.int .i64 V)):=by
 have hl:k<l.length:=(List.getElem?_eq_some_iff.1 hx).1
 obtain ⟨hbl,A',c',hat,_,h0,h1,h2,h3,h4⟩:=hA.item hx
 obtain ⟨_,A2,c2,_,_,g0,g1,_,_,_⟩:=hA.item hp
 unfold strV at h2 h3;have HAT:=Lib.hid hat
 have hV':=hV.out
 clear hA hx hp hV hat;have i1:(0:Int)≤(k:Int):=by omega
 have i2:(1:Int)≤(k:Int):=by omega
 have i3:(k:Int)<l.length:=by omega
 have i4:(0:Int)≤(k:Int)-1:=by omega
 have i5:(k:Int)-1<l.length:=by omega
 have t0:((k:Int) == 0)=false:=by simp;omega
 have t1:decide ((0:Int)<(k:Int))=true:=by simp;omega
 have t2:decide (0<k)=true:=by simp;omega
 obtain ⟨lo,hi⟩:=hpl
 obtain ⟨W1,hW1⟩:∃ W1,Hid (W1=w.alloc (.cells #[.int .i64 x.level,.int .i64 x.kind,.string ⟨x.name.toArray⟩,.string ⟨x.text.toArray⟩,.slice A' x.attrs.length c'] 75)):=⟨_,rfl⟩
 have hS:Hid (W1.drew.cell? ⟨w.heap.size,0,none⟩=some (.int .i64 x.level)∧W1.drew.cell? (ad.add ((k-1) * 5))=some (.int .i64 p.level)∧W1.drew.cell? ⟨(ad.add ((k-1) * 5)).block,(ad.add ((k-1) * 5)).off+1,none⟩=some (.int .i64 p.kind)):=by
  refine ⟨?_,?_,?_⟩
  ·rw [hW1.out];show (w.alloc _).cell? _=_;rw [World.cell?_alloc_at _ _ _ _ (by simp)];rfl
  ·rw [hW1.out];show (w.alloc _).cell? _=_;rw [World.cell?_alloc_lt _ _ _ (by rw [zAD];exact hbl)];exact g0
  ·rw [hW1.out];show (w.alloc _).cell? _=_;rw [World.cell?_alloc_lt _ _ _ (by show (ad.add _).block<_;rw [zAD];exact hbl)];exact g1
 have hbW:Below w.heap.size w W1:=by rw [hW1.out];exact (Below.refl _ w).alloc (Nat.le_refl _) _
 have hzW:w.heap.size<W1.heap.size:=by rw [hW1.out];simp
 have hcs:Hid (∀ w',Below W1.heap.size W1 w'→w'.cell? ⟨w.heap.size,0,none⟩=some (.int .i64 x.level)∧w'.cell? ⟨w.heap.size,1,none⟩=some (.int .i64 x.kind)∧w'.cell? ⟨w.heap.size,2,none⟩=some (.string ⟨x.name.toArray⟩)∧w'.cell? ⟨w.heap.size,3,none⟩=some (.string ⟨x.text.toArray⟩)∧w'.cell? ⟨w.heap.size,4,none⟩=some (.slice A' x.attrs.length c')):=fun w' hb=>by
  refine ⟨?_,?_,?_,?_,?_⟩
  all_goals
   rw [hb.cell (by exact hzW),hW1.out,World.cell?_alloc_at _ _ _ _ (by simp)];rfl
 by_cases c1:x.level<1
 ·skip
  have hv:Hid (69=V):=by
   show _=_
   rw [← hV'];unfold placeE;exact (if_pos (.inl c1)).symm
  have d1:decide (x.level<1)=true:=by simp;omega
  clear hV'
  go_enter Tryz.func68,Tryz.ntmps68
  go_wp2_with fail;rw [← hW1.out];refine wp_region_held_drew (S:=fun w'=>w'.cell? ⟨w.heap.size,0,none⟩=some (.int .i64 x.level)∧w'.cell? (ad.add ((k-1) * 5))=some (.int .i64 p.level)∧w'.cell? ⟨(ad.add ((k-1) * 5)).block,(ad.add ((k-1) * 5)).off+1,none⟩=some (.int .i64 p.kind)) (by kernel_rfl) hS.out (fun hHeld=>?_)
  refine tkv 0 (h:=tkv 1 (h:=tkv 2 (h:=tkv 3 (h:=tkv 4 (h:=tkv 5 (h:=?_))))))
  refine tkv 6 (h:=?_)
  refine tkn 7 (h:=tkn 8 (h:=tkn 9 (h:=tkn 10 (h:=tkn 11 (h:=tkn 12 (h:=?_))))))
  refine tkn 13 (h:=tkn 14 (h:=tkn 15 (h:=tkn 16 (h:=?_))))
  refine tkv 17 (h:=tkv 18 (h:=?_))
  refine tkn 19 (h:=tkn 20 (h:=tkn 21 (h:=tkn 22 (h:=tkn 23 (h:=tkn 24 (h:=?_))))))
  refine tkn 25 (h:=tkn 26 (h:=tkn 27 (h:=tkn 28 (h:=tkn 29 (h:=tkn 30 (h:=?_))))))
  refine tkn 31 (h:=tkn 32 (h:=tkn 33 (h:=tkn 34 (h:=tkn 35 (h:=tkn 36 (h:=?_))))))
  refine tkv 37 (h:=tkv 38 (h:=tkv 39 (h:=?_)))
  refine wpAnyH_done (by kernel_rfl) ?_ _
  clear hW1
  go_wp2_with fail
  go_ret;exact ⟨by rw [← hv.out];rfl,hbW.trans ((Below.refl _ W1).drew.mono (Nat.le_of_lt hzW))⟩
 have n1:1≤x.level:=by omega
 by_cases c2:p.level+1<x.level
 ·skip
  have hv:Hid (69=V):=by
   show _=_
   rw [← hV'];unfold placeE;exact (if_pos (.inr (.inl c2))).symm
  have d1:decide (x.level<1)=false:=by simp;omega
  have w1:IntKind.i64.wrap (p.level+1)=p.level+1:=IntWalk.i64_in _ (by omega)
  have d2:decide (p.level+1<x.level)=true:=by simp;omega
  have wk:IntKind.i64.wrap ((k:Int)-1)=(k:Int)-1:=IntWalk.i64_in _ (by omega)
  have kn:((k:Int)-1).toNat=k-1:=by omega
  clear hV'
  go_enter Tryz.func68,Tryz.ntmps68
  go_wp2_with fail;rw [← hW1.out];refine wp_region_held_drew (S:=fun w'=>w'.cell? ⟨w.heap.size,0,none⟩=some (.int .i64 x.level)∧w'.cell? (ad.add ((k-1) * 5))=some (.int .i64 p.level)∧w'.cell? ⟨(ad.add ((k-1) * 5)).block,(ad.add ((k-1) * 5)).off+1,none⟩=some (.int .i64 p.kind)) (by kernel_rfl) hS.out (fun hHeld=>?_)
  refine tkv 0 (h:=tkv 1 (h:=tkv 2 (h:=tkv 3 (h:=tkv 4 (h:=tkv 5 (h:=?_))))))
  refine tkv 6 (h:=tkv 7 (h:=tkv 8 (h:=tkv 9 (h:=tkv 10 (h:=tkv 11 (h:=?_))))))
  refine tkv 12 (h:=tkv 13 (h:=tkv 14 (h:=tkv 15 (h:=tkv 16 (h:=tkv 17 (h:=?_))))))
  refine tkv 18 (h:=?_)
  refine tkn 19 (h:=tkn 20 (h:=tkn 21 (h:=tkn 22 (h:=tkn 23 (h:=tkn 24 (h:=?_))))))
  refine tkn 25 (h:=tkn 26 (h:=tkn 27 (h:=tkn 28 (h:=tkn 29 (h:=tkn 30 (h:=?_))))))
  refine tkn 31 (h:=tkn 32 (h:=tkn 33 (h:=tkn 34 (h:=tkn 35 (h:=tkn 36 (h:=?_))))))
  refine tkv 37 (h:=tkv 38 (h:=tkv 39 (h:=?_)))
  refine wpAnyH_done (by kernel_rfl) ?_ _
  clear hW1
  go_wp2_with fail
  go_ret;exact ⟨by rw [← hv.out];rfl,hbW.trans ((Below.refl _ W1).drew.mono (Nat.le_of_lt hzW))⟩
 by_cases c3:p.level<x.level
 ·by_cases c4:p.kind=2
  ·skip
   have hv:Hid (69=V):=by
    show _=_
    rw [← hV'];unfold placeE;exact (if_pos (.inr (.inr ⟨c3,c4⟩))).symm
   have d1:decide (x.level<1)=false:=by simp;omega
   have w1:IntKind.i64.wrap (p.level+1)=p.level+1:=IntWalk.i64_in _ (by omega)
   have d2:decide (p.level+1<x.level)=false:=by simp;omega
   have d3:decide (p.level<x.level)=true:=by simp;omega
   have d4:(p.kind == 2)=true:=by simp [c4]
   have wk:IntKind.i64.wrap ((k:Int)-1)=(k:Int)-1:=IntWalk.i64_in _ (by omega)
   have kn:((k:Int)-1).toNat=k-1:=by omega
   clear hV'
   go_enter Tryz.func68,Tryz.ntmps68
   go_wp2_with fail;rw [← hW1.out];refine wp_region_held_drew (S:=fun w'=>w'.cell? ⟨w.heap.size,0,none⟩=some (.int .i64 x.level)∧w'.cell? (ad.add ((k-1) * 5))=some (.int .i64 p.level)∧w'.cell? ⟨(ad.add ((k-1) * 5)).block,(ad.add ((k-1) * 5)).off+1,none⟩=some (.int .i64 p.kind)) (by kernel_rfl) hS.out (fun hHeld=>?_)
   refine tkv 0 (h:=tkv 1 (h:=tkv 2 (h:=tkv 3 (h:=tkv 4 (h:=tkv 5 (h:=?_))))))
   refine tkv 6 (h:=tkv 7 (h:=tkv 8 (h:=tkv 9 (h:=tkv 10 (h:=tkv 11 (h:=?_))))))
   refine tkv 12 (h:=tkv 13 (h:=tkv 14 (h:=tkv 15 (h:=tkv 16 (h:=tkv 17 (h:=?_))))))
   refine tkv 18 (h:=tkv 19 (h:=tkv 20 (h:=tkv 21 (h:=tkv 22 (h:=tkv 23 (h:=?_))))))
   refine tkv 24 (h:=tkv 25 (h:=tkv 26 (h:=tkv 27 (h:=tkv 28 (h:=tkv 29 (h:=?_))))))
   refine tkv 30 (h:=tkv 31 (h:=tkv 32 (h:=tkv 33 (h:=tkv 34 (h:=tkv 35 (h:=?_))))))
   refine tkv 36 (h:=tkv 37 (h:=tkv 38 (h:=tkv 39 (h:=?_))))
   refine wpAnyH_done (by kernel_rfl) ?_ _
   clear hW1
   go_wp2_with fail
   go_ret;exact ⟨by rw [← hv.out];rfl,hbW.trans ((Below.refl _ W1).drew.mono (Nat.le_of_lt hzW))⟩
  ·skip
   have hpl:placeE (some p) k x=(if 40≤x.level then (42:Int) else if 1000≤k then 43 else 0):=by unfold placeE;exact if_neg (by omega)
   have hv':Hid ((if 40≤x.level then (42:Int) else if 1000≤k then 43 else 0)=V):=by show _=_;rw [← hV',hpl]
   clear hpl;have d1:decide (x.level<1)=false:=by simp;omega
   have w1:IntKind.i64.wrap (p.level+1)=p.level+1:=IntWalk.i64_in _ (by omega)
   have d2:decide (p.level+1<x.level)=false:=by simp;omega
   have d3:decide (p.level<x.level)=true:=by simp;omega
   have d4:(p.kind == 2)=false:=by simp [c4]
   have wk:IntKind.i64.wrap ((k:Int)-1)=(k:Int)-1:=IntWalk.i64_in _ (by omega)
   have kn:((k:Int)-1).toNat=k-1:=by omega
   clear hV'
   go_enter Tryz.func68,Tryz.ntmps68
   go_wp2_with fail;rw [← hW1.out];refine wp_region_held_drew (S:=fun w'=>w'.cell? ⟨w.heap.size,0,none⟩=some (.int .i64 x.level)∧w'.cell? (ad.add ((k-1) * 5))=some (.int .i64 p.level)∧w'.cell? ⟨(ad.add ((k-1) * 5)).block,(ad.add ((k-1) * 5)).off+1,none⟩=some (.int .i64 p.kind)) (by kernel_rfl) hS.out (fun hHeld=>?_)
   refine tkv 0 (h:=tkv 1 (h:=tkv 2 (h:=tkv 3 (h:=tkv 4 (h:=tkv 5 (h:=?_))))))
   refine tkv 6 (h:=tkv 7 (h:=tkv 8 (h:=tkv 9 (h:=tkv 10 (h:=tkv 11 (h:=?_))))))
   refine tkv 12 (h:=tkv 13 (h:=tkv 14 (h:=tkv 15 (h:=tkv 16 (h:=tkv 17 (h:=?_))))))
   refine tkv 18 (h:=tkv 19 (h:=tkv 20 (h:=tkv 21 (h:=tkv 22 (h:=tkv 23 (h:=?_))))))
   refine tkv 24 (h:=tkv 25 (h:=tkv 26 (h:=tkv 27 (h:=tkv 28 (h:=tkv 29 (h:=?_))))))
   refine tkv 30 (h:=tkv 31 (h:=tkv 32 (h:=tkv 33 (h:=tkv 34 (h:=tkv 35 (h:=?_))))))
   refine tkv 36 (h:=tkv 37 (h:=tkv 38 (h:=tkv 39 (h:=?_))))
   refine wpAnyH_done (by kernel_rfl) ?_ _
   clear hW1 wk kn w1 t0 t1 t2 d1 d2 d3;have hbD:Below W1.heap.size W1 W1.drew:=(Below.refl _ W1).drew
   obtain ⟨e0,e1,e2,e3,e4⟩:=hcs.out _ hbD
   have hbD':=hbW.trans (hbD.mono (Nat.le_of_lt hzW))
   by_cases l40:40≤x.level
   ·have hv:Hid (42=V):=by show _=_;rw [← hv'.out,if_pos l40]
    clear hv'
    go_wp2_with fail
    go_ret;exact ⟨by rw [← hv.out];rfl,hbD'⟩
   by_cases k1000:1000≤k
   ·have hv:Hid (43=V):=by show _=_;rw [← hv'.out,if_neg l40,if_pos k1000]
    clear hv';have k1':(1000:Int)≤k:=by omega
    go_wp2_with fail
    go_ret;exact ⟨by rw [← hv.out];rfl,hbD'⟩
   have hv:Hid (0=V):=by show _=_;rw [← hv'.out,if_neg l40,if_neg k1000]
   clear hv';have k1':(k:Int)<1000:=by omega
   have l40':x.level<40:=by omega
   go_wp2_with fail
   go_ret;exact ⟨by rw [← hv.out];rfl,hbD'⟩
 ·skip
  have hpl:placeE (some p) k x=(if 40≤x.level then (42:Int) else if 1000≤k then 43 else 0):=by unfold placeE;exact if_neg (by omega)
  have hv':Hid ((if 40≤x.level then (42:Int) else if 1000≤k then 43 else 0)=V):=by show _=_;rw [← hV',hpl]
  clear hpl;have d1:decide (x.level<1)=false:=by simp;omega
  have w1:IntKind.i64.wrap (p.level+1)=p.level+1:=IntWalk.i64_in _ (by omega)
  have d2:decide (p.level+1<x.level)=false:=by simp;omega
  have d3:decide (p.level<x.level)=false:=by simp;omega
  have wk:IntKind.i64.wrap ((k:Int)-1)=(k:Int)-1:=IntWalk.i64_in _ (by omega)
  have kn:((k:Int)-1).toNat=k-1:=by omega
  clear hV'
  go_enter Tryz.func68,Tryz.ntmps68
  go_wp2_with fail;rw [← hW1.out];refine wp_region_held_drew (S:=fun w'=>w'.cell? ⟨w.heap.size,0,none⟩=some (.int .i64 x.level)∧w'.cell? (ad.add ((k-1) * 5))=some (.int .i64 p.level)∧w'.cell? ⟨(ad.add ((k-1) * 5)).block,(ad.add ((k-1) * 5)).off+1,none⟩=some (.int .i64 p.kind)) (by kernel_rfl) hS.out (fun hHeld=>?_)
  refine tkv 0 (h:=tkv 1 (h:=tkv 2 (h:=tkv 3 (h:=tkv 4 (h:=tkv 5 (h:=?_))))))
  refine tkv 6 (h:=tkv 7 (h:=tkv 8 (h:=tkv 9 (h:=tkv 10 (h:=tkv 11 (h:=?_))))))
  refine tkv 12 (h:=tkv 13 (h:=tkv 14 (h:=tkv 15 (h:=tkv 16 (h:=tkv 17 (h:=?_))))))
  refine tkv 18 (h:=tkv 19 (h:=tkv 20 (h:=tkv 21 (h:=tkv 22 (h:=tkv 23 (h:=?_))))))
  refine tkv 24 (h:=tkv 25 (h:=tkv 26 (h:=tkv 27 (h:=tkv 28 (h:=?_)))))
  refine tkn 29 (h:=tkn 30 (h:=tkn 31 (h:=tkn 32 (h:=tkn 33 (h:=tkn 34 (h:=?_))))))
  refine tkn 35 (h:=?_)
  refine tkv 36 (h:=tkv 37 (h:=tkv 38 (h:=tkv 39 (h:=?_))))
  refine wpAnyH_done (by kernel_rfl) ?_ _
  clear hW1 wk kn w1 t0 t1 t2 d1 d2 d3;have hbD:Below W1.heap.size W1 W1.drew:=(Below.refl _ W1).drew
  obtain ⟨e0,e1,e2,e3,e4⟩:=hcs.out _ hbD
  have hbD':=hbW.trans (hbD.mono (Nat.le_of_lt hzW))
  by_cases l40:40≤x.level
  ·have hv:Hid (42=V):=by show _=_;rw [← hv'.out,if_pos l40]
   clear hv'
   go_wp2_with fail
   go_ret;exact ⟨by rw [← hv.out];rfl,hbD'⟩
  by_cases k1000:1000≤k
  ·have hv:Hid (43=V):=by show _=_;rw [← hv'.out,if_neg l40,if_pos k1000]
   clear hv';have k1':(1000:Int)≤k:=by omega
   go_wp2_with fail
   go_ret;exact ⟨by rw [← hv.out];rfl,hbD'⟩
  have hv:Hid (0=V):=by show _=_;rw [← hv'.out,if_neg l40,if_neg k1000]
  clear hv';have k1':(k:Int)<1000:=by omega
  have l40':x.level<40:=by omega
  go_wp2_with fail
  go_ret;exact ⟨by rw [← hv.out];rfl,hbD'⟩
end
section
open Go.RowKit
theorem zJ2 (l:List ItemD) (A:Option Addr) (c k:Nat) (x:ItemD) (w:World) (hA:ItemsAt w w.heap.size A l) (hx:l[k]? = some x) (hlen:l.length≤1000000000) (hpl:∀ p,prevOf l k=some p→0≤p.level∧p.level<40) (V:Int) (hV:Hid (placeE (prevOf l k) k x=V)) :
  Calls Tryz.prog 68 #[.slice A l.length c,.int .i64 k] w (Ret w (.int .i64 V)):=by
 have hl:k<l.length:=(List.getElem?_eq_some_iff.1 hx).1
 obtain ⟨ad,rfl,_⟩:=hA (by omega)
 by_cases hk:k=0
 ·subst hk
  exact zHI l ad c x w hA hx hlen V hV
 ·have hp:l[k-1]? = some l[k-1]:=List.getElem?_eq_getElem _
  have he:prevOf l k=some l[k-1]:=by unfold prevOf;rw [if_neg hk,hp]
  have hb:=hpl _ he
  rw [he] at hV;exact zHJ l ad c k x _ w hA (by omega) hx hp hlen (by omega) V hV
theorem zDo (l:List ItemD) (A:Option Addr) (c:Nat) (w:World) (hA:ItemsAt w w.heap.size A l) (hs:SmallItems l) (n e:Int) (hV:Hid (checkL l=(n,e))) :
  Calls Tryz.prog 43 #[.slice A l.length c] w (Ret w (.tuple #[.int .i64 n,.int .i64 e])):=by
 obtain ⟨hs1,hs2⟩:=hs
 have HS:=Lib.hid hs2
 have HA:=Lib.hid hA
 clear hs2 hA;by_cases h0:l=[]
 ·have hv:Hid (n=0∧e=40):=by
   have:=hV.out
   unfold checkL at this;rw [if_pos h0] at this
   injection this with a b
   exact ⟨a.symm,b.symm⟩
  have hlen:l.length=0:=by rw [h0];rfl
  rw [hlen];clear h0 hV hs1 hlen
  go_enter Tryz.func43,Tryz.ntmps43
  go_wp2_with fail
  go_ret2;obtain ⟨rfl,rfl⟩:=hv.out
  exact ⟨rfl,Below.refl _ _⟩
 ·have hpos:0<l.length:=List.length_pos_iff.2 h0
  have hC:Hid (checkF (prevOf l 0) 0 (l.drop 0)=(n,e)):=by
   have:=hV.out
   unfold checkL at this;rw [if_neg h0] at this;exact this
  have t0:((l.length:Int) == 0)=false:=by simp;omega
  clear h0 hV
  go_enter Tryz.func43,Tryz.ntmps43
  go_wp2_with fail
  go_loopw [12] (fun i wr=>∃ (k:Nat),k≤l.length∧i=.int .i64 k∧Hid (checkF (prevOf l k) k (l.drop k)=(n,e))∧Hid (∀ p,prevOf l k=some p→0≤p.level∧p.level<40)∧Below w.heap.size w wr) (fun i _=>l.length-(intOf i).toNat)
  case atStart=>exact ⟨0,Nat.zero_le _,rfl,hC,fun p hp=>by simp [prevOf] at hp,Below.refl _ _⟩
  case round =>
   obtain ⟨k,hk,rfl,hin,hpv,hbel⟩:=hrel
   have hzr:=hbel.size
   by_cases hlt:k<l.length
   ·obtain ⟨x,hx⟩:∃ x,Hid (l[k]? = some x):=⟨l[k],List.getElem?_eq_getElem _⟩
    have hAr:=HA.out.below hbel
    obtain ⟨ad,hAd,_⟩:=hAr (by omega)
    subst hAd;obtain ⟨hbl,A',c',hat,_,h0,h1,h2,h3,h4⟩:=hAr.item hx.out
    unfold strV at h2 h3;have HAR:=Lib.hid hAr
    have HAT:=Lib.hid hat
    clear hAr hat;have hsx:=Lib.hid (HS.out k x hx.out)
    have hin':=hin.out
    rw [zDu hx.out] at hin';have hlt':(k:Int)<l.length:=by omega
    obtain ⟨q,hq⟩:∃ q,Hid (placeE (prevOf l k) k x=q):=⟨_,rfl⟩
    obtain ⟨W1,hW1⟩:∃ W1,Hid (W1=wr.alloc (.cells #[.int .i64 x.level,.int .i64 x.kind,.string ⟨x.name.toArray⟩,.string ⟨x.text.toArray⟩,.slice A' x.attrs.length c'] 75)):=⟨_,rfl⟩
    have hbW:Below wr.heap.size wr W1:=by rw [hW1.out];exact (Below.refl _ wr).alloc (Nat.le_refl _) _
    have hzW:wr.heap.size<W1.heap.size:=by rw [hW1.out];simp
    have hcs:Hid (∀ w',Below W1.heap.size W1 w'→w'.cell? ⟨wr.heap.size,0,none⟩=some (.int .i64 x.level)∧w'.cell? ⟨wr.heap.size,1,none⟩=some (.int .i64 x.kind)∧w'.cell? ⟨wr.heap.size,2,none⟩=some (.string ⟨x.name.toArray⟩)∧w'.cell? ⟨wr.heap.size,3,none⟩=some (.string ⟨x.text.toArray⟩)∧w'.cell? ⟨wr.heap.size,4,none⟩=some (.slice A' x.attrs.length c')):=fun w' hb=>by
     refine ⟨?_,?_,?_,?_,?_⟩
     all_goals
      rw [hb.cell (by exact hzW),hW1.out,World.cell?_alloc_at _ _ _ _ (by simp)];rfl
    clear hbl
    go_wp2_with fail;rw [← hW1.out];refine (zJ2 l (some ad) c k x W1 ((HAR.out.below (hbW.mono hzr)).more (by omega)) hx.out hs1 hpv.out q hq).mono ?_;rintro e2 w2 ⟨rfl,hb2⟩
    obtain ⟨c0,c1,c2,c3,c4⟩:=hcs.out _ hb2
    have hb2':Below w.heap.size w w2:=hbel.trans ((hbW.mono hzr).trans (hb2.mono (by omega)))
    clear h0 h1 h2 h3 h4;by_cases hq0:q=0
    ·obtain ⟨f,hf⟩:∃ f,Hid (partsE x=f):=⟨_,rfl⟩
     have ho:oneE (prevOf l k) k x=f:=by unfold oneE;rw [hq.out,if_pos hq0];exact hf.out
     rw [ho] at hin';subst hq0;by_cases hf0:f=0
     ·rw [if_pos hf0] at hin'
      have HIN:=Lib.hid hin'
      have hpv':Hid (∀ p,prevOf l (k+1)=some p→0≤p.level∧p.level<40):=fun p hp=>by
       rw [zBv hx.out] at hp
       injection hp with hp;subst hp
       exact zCc hq.out
      subst hf0;clear hin' hin ho hpv
      go_wp2_with fail;refine (zGd x A' c' w2 ((HAT.out.below (hbW.mono hzr |>.trans (hb2.mono (by omega)))).more hb2'.size) hsx.out 0 hf).mono ?_;rintro e3 w3 ⟨rfl,hb3⟩
      have hb3':Below w.heap.size w w3:=hb2'.trans (hb3.mono hb2'.size)
      go_wp2_with fail
      go_roundw
      case rel=>exact ⟨k+1,by omega,by go_num,HIN,hpv',hb3'⟩
      case measure=>simp [intOf];omega
     ·rw [if_neg hf0] at hin'
      have HIN:=Lib.hid hin'
      have tf:(f != 0)=true:=by simp [hf0]
      clear hin' hin ho hpv hf0
      go_wp2_with fail;refine (zGd x A' c' w2 ((HAT.out.below (hbW.mono hzr |>.trans (hb2.mono (by omega)))).more hb2'.size) hsx.out f hf).mono ?_;rintro e3 w3 ⟨rfl,hb3⟩
      have hb3':Below w.heap.size w w3:=hb2'.trans (hb3.mono hb2'.size)
      go_wp2_with fail
      go_ret2;have:=HIN.out
      injection this with a b
      subst a;subst b;exact ⟨rfl,hb3'⟩
    ·have ho:oneE (prevOf l k) k x=q:=by unfold oneE;rw [hq.out,if_neg hq0]
     rw [ho,if_neg hq0] at hin';have HIN:=Lib.hid hin'
     have tq:(q == 0)=false:=by simp [hq0]
     have tq':(q != 0)=true:=by simp [hq0]
     clear hin' hin ho hpv hq0
     go_wp2_with fail
     go_ret2;have:=HIN.out
     injection this with a b
     subst a;subst b;exact ⟨rfl,hb2'⟩
   ·have hk':k=l.length:=by omega
    have HIN:Hid ((0,0)=(n,e)):=by
     show _=_
     rw [← hin.out,List.drop_eq_nil_of_le (by omega)];rfl
    subst hk';clear hin hlt hk hpv
    go_wp2_with fail
    go_ret2;have:=HIN.out
    injection this with a b
    subst a;subst b;exact ⟨rfl,hbel⟩
end
section
open Go.RowKit Go.Shelf
section
variable {w:World} {t mb:Nat} {y:Lay} {g:Int→Option Ent} {root next:Int} {n:Nat}
theorem zK1 {w1:World} (h:TreeAt w t mb y g root next n) (hb:Below w.heap.size w w1) :
  TreeAt (((w1.alloc (.map #[] 0)).setCell ⟨t,0,none⟩ (.map (some w1.heap.size))).setCell ⟨t,1,none⟩ (.int .i64 0)) t w1.heap.size y (fun _=>none) 0 next 0 ∧
  Grows (Mine t mb y g) (Mine t w1.heap.size y (fun _=>none)) w (((w1.alloc (.map #[] 0)).setCell ⟨t,0,none⟩ (.map (some w1.heap.size))).setCell ⟨t,1,none⟩ (.int .i64 0)):=by
 have h1:=h.below hb
 have ht:t<w.heap.size:=h.lt (.inl rfl)
 have ht1:t<w1.heap.size:=Nat.lt_of_lt_of_le ht hb.size
 have a0:(w1.alloc (.map #[] 0)).heap[t]? = some (.cells (treeC mb root next) 95 (0,0)):=(Below.heap_alloc w1 _ _ ht1).trans h1.tree
 have a1:=Lib.heap_setCell_same (i:=0) a0 (.map (some w1.heap.size))
 have a2:=Lib.heap_setCell_same (i:=1) a1 (.int .i64 0)
 refine ⟨⟨a2,?_,fun _ _ h=>(by cases h),fun _ _ h=>(by cases h),fun _ _ h=>(by cases h),fun _ _ _ _ h=>(by cases h)⟩,?_,?_⟩
 ·refine (MapG.new w1).keep ?_
  rw [Below.heap_setCell _ _ _ _ (by show w1.heap.size≠t;omega),Below.heap_setCell _ _ _ _ (by show w1.heap.size≠t;omega)]
 ·exact (((Turn.of_below hb).alloc _).setCell (.inl (.inl rfl)) _).setCell (.inl (.inl rfl)) _
 ·rintro b (hb' | hb' | ⟨_,_,h,_⟩)
  ·exact .inl (.inl hb')
  ·exact .inr (by rw [hb'];exact hb.size)
  ·cases h
def LoadPost (t mb:Nat) (y:Lay) (g:Int→Option Ent) (w:World) (s2:GS) (next:Int) (m:Nat) (er:Ending) (w':World):Prop:=er=.returned (.tuple #[.int .i64 next,.int .i64 0])∧TP t mb y g w s2.g s2.root (next+(m:Int)) s2.n w'
theorem zLn (l:List ItemD) (A:Option Addr) (c:Nat) (hi:ItemsAt w w.heap.size A l) (hs:SmallItems l) (k e:Int) (hV:Hid (checkL l=(k,e))) (he:e≠0) :
  Calls Tryz.prog 26 #[.pointer (some ⟨t,0,none⟩),.slice A l.length c] w (Ret w (.tuple #[.int .i64 0,.int .i64 e])):=by
 have he':(e != 0)=true:=by simpa using he
 have HI:=Lib.hid hi
 have HS:=Lib.hid hs
 clear hi hs he
 go_enter Tryz.func26,Tryz.ntmps26
 go_wp2_with fail;refine (zDo l A c w HI.out HS.out k e hV).mono ?_
 rintro er w1 ⟨rfl,hb⟩;have HB:=Lib.hid hb
 clear hb
 go_wp2_with fail
 go_ret2;exact ⟨rfl,HB.out⟩
theorem zIx (h:TreeAt w t mb y g root next n) (l:List ItemD) (A:Option Addr) (c:Nat) (hi:ItemsAt w w.heap.size A l) (hs:SmallItems l) (k:Int) (hV:Hid (checkL l=(k,0))) (hn0:0≤next) (hn1:next≤4294967296) (hm:2147483647<next+(l.length:Int)) :
  Calls Tryz.prog 26 #[.pointer (some ⟨t,0,none⟩),.slice A l.length c] w (Ret w (.tuple #[.int .i64 0,.int .i64 66])):=by
 have HI:=Lib.hid hi
 have HS:=Lib.hid hs
 have HH:=Lib.hid h
 have hm':2147483647-next<(l.length:Int):=by omega
 clear hi hs h
 go_enter Tryz.func26,Tryz.ntmps26
 go_wp2_with fail;refine (zDo l A c w HI.out HS.out k 0 hV).mono ?_
 rintro er w1 ⟨rfl,hb⟩;have c2:=(HH.out.below hb).c2
 have HB:=Lib.hid hb
 clear hb
 go_wp2_with fail
 go_ret2;exact ⟨rfl,HB.out⟩
theorem zKW (h:TreeAt w t mb y g root next n) (l:List ItemD) (A:Option Addr) (c B:Nat) (hi:StandI (Mine t mb y g) w B A l) (hBw:B≤w.heap.size) (hs:SmallItems l) (k:Int) (hV:Hid (checkL l=(k,0))) (hn0:1≤next) (hn1:next≤2147483647) (hm:next+(l.length:Int)≤2147483647)
  (s2:GS) (hg:growS (l.zip (idsFrom next l.length)) ⟨[0],0,fun _=>none,0,0⟩=some s2) :
  Calls Tryz.prog 26 #[.pointer (some ⟨t,0,none⟩),.slice A l.length c] w (LoadPost t mb y g w s2 next l.length):=by
 have hmm:=@run_makeMap Tryz.prog
 obtain ⟨x0,r0,hl0,_,_,_,_,hck,hlen⟩:=(zDe l).1 (by rw [hV.out])
 have hpos:0<l.length:=by rw [hl0];simp
 have hal:∀ (k:Nat) (x:ItemD),l[k]? = some x→x.attrs.length≤1000000000:=fun k x hx=>by
  have:=zCb (hck x (List.mem_of_getElem? hx)).2;omega
 have HAL:=Lib.hid hal
 have HI:=Lib.hid hi
 have HS:=Lib.hid hs
 have HH:=Lib.hid h
 have HG:=Lib.hid hg
 have HBW:=Lib.hid hBw
 have hm':¬ (2147483647-next<(l.length:Int)):=by omega
 clear hi hs h hl0 hck hal hg hBw
 go_enter Tryz.func26,Tryz.ntmps26
 go_wp2_with fail;refine (zDo l A c w (HI.out.now.more HBW.out) HS.out k 0 hV).mono ?_
 rintro er w1 ⟨rfl,hb⟩;have h1:=HH.out.below hb
 have c2:=h1.c2
 have a0:(w1.alloc (.map #[] 0)).heap[t]? = some (.cells (treeC mb root next) 95 (0,0)):=(Below.heap_alloc w1 _ _ (h1.lt (.inl rfl))).trans h1.tree
 have a1:=Lib.heap_setCell_same (i:=0) a0 (.map (some w1.heap.size))
 have f0:=zAV a0 0
 have f1:=zAV a1 1
 have c0:=zAA a0 0 _ rfl
 have c1:=zAA a1 1 _ rfl
 have HB:=Lib.hid hb
 have hl:=zK1 HH.out hb
 have HL:=Lib.hid hl
 clear hb h1 hl a0 a1
 go_upto_region 7 with (fail)
 obtain ⟨W2,hW2⟩:∃ W2,Hid (((w1.alloc (.map #[] 0)).setCell ⟨t,0,none⟩ (.map (some w1.heap.size))).setCell ⟨t,1,none⟩ (.int .i64 0)=W2):=⟨_,rfl⟩
 rw [hW2.out] at HL ⊢;clear c2 f0 f1 c0 c1
 go_wp2_with fail;refine (zJZ HL.out.1 l.length (by omega) (by omega) (by omega)).mono ?_
 rintro e1 w3 ⟨A3,c3,rfl,hrow,hfr,ht3,htu⟩;have hm3:∀ b,Mine t w1.heap.size y (fun _=>none) b→b<W2.heap.size:=fun b hb=>HL.out.1.lt hb
 have hi3:StandI (Mine t w1.heap.size y (fun _=>none)) w3 B A l:=HI.out.grow (Grows.trans HL.out.2 ⟨htu.mono fun b hb=>.inl hb,fun b hb=>.inl hb⟩)
 have HI3:=Lib.hid hi3
 have HT3:=Lib.hid ht3
 have HROW:=Lib.hid hrow
 have HFR:=Lib.hid hfr
 have HTU:=Lib.hid htu
 have HM3:=Lib.hid hm3
 clear hi3 ht3 hrow hfr htu hm3
 go_wp2_with fail;refine (zKt HT3.out 0 0 l (idsFrom next l.length) A c B HI3.out (by have:=HTU.out.size;have:=HL.out.2.1.size;have:=HBW.out;omega) (.slice A3 l.length c3) HROW.out (fun b hb hm=>by have:=HFR.out b hb;have:=HM3.out b hm;omega) HAL.out (fun i hi=>?_) ⟨by decide,by decide⟩ (by decide) (fun _ _ h=>by cases h) (by omega) (zAr _ _) hpos (by decide) s2 HG.out).mono ?_
 ·obtain ⟨j,hj,rfl⟩:=List.mem_map.1 hi
  have:=List.mem_range.1 hj
  exact ⟨by omega,by omega⟩
 rintro e2 w4 ⟨i0,hi0,rfl,mb',y',ht4,hg4⟩;have hi0':i0=next:=by
  unfold idsFrom at hi0;rw [List.getElem?_map,List.getElem?_range hpos] at hi0
  simpa using hi0.symm
 subst hi0';have HT4:=Lib.hid ht4
 have HG4:=Lib.hid hg4
 clear hi0 ht4 hg4
 go_wp2_with fail
 go_ret2;refine ⟨rfl,mb',y',HT4.out,Grows.trans HL.out.2 (Grows.trans ⟨HTU.out.mono fun b hb=>.inl hb,fun b hb=>.inl hb⟩ HG4.out)⟩
end
end
section
open Go.RowKit
end
section
open Go.RowKit Go.Shelf
section
variable {w:World} {t mb:Nat} {y:Lay} {g:Int→Option Ent} {root next:Int} {n:Nat}
end
end
section
open Go.RowKit Go.Shelf
end
end Go.Proofs.YtcombcoilpmnkaaGreat

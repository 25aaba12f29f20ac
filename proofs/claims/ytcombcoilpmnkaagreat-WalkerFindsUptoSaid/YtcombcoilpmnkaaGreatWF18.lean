/-
  Texts of this claim, joined (by a program of the claim's author): WSel, W8c, W8a, W8b, W8d, W8e.
-/
import Derived.Test.YtcombcoilpmnkaaGreatWF1
import Derived.Test.YtcombcoilpmnkaaGreatWF17
import Derived.Test.YtcombcoilpmnkaaGreatWF9
import Derived.Test.YtcombcoilpmnkaaGreatWF8
import Derived.Test.YtcombcoilpmnkaaGreatWF13
import Derived.Test.YtcombcoilpmnkaaGreatWF16
namespace Go.Proofs.YtcombcoilpmnkaaGreat
set_option maxRecDepth 100000
set_option maxHeartbeats 16000000
section
open Go.RowKit Go.Shelf
theorem zGp (A:Option Addr) (n c:Nat) (w:World) (r:Bool) (hr:Hid (decide ((n:Int)≤40)=r)):Calls Tryz.prog 11 #[.slice A n c] w (Ret w (.bool r)):=by
 go_enter Tryz.func11,Tryz.ntmps11
 go_wp2_with fail
 go_ret;rw [← hr.out];exact ⟨rfl,Below.refl _ _⟩
end
section
open Go.RowKit Go.Shelf
theorem zKF (L:List RowD) (A:Option Addr) (c:Nat) (next:Int) (w:World) (hT:TreeR (fun _=>True) w A c L) (hlen:L.length≤100000) :
  Calls Tryz.prog 36 #[.agg #[.slice A L.length c,.int .i64 next]] w fun e w'=>∃ A' c',e=.returned (.slice A' (rowsL L).length c')∧TreeR (fun _=>True) w' A' c' (rowsL L)∧Below w.heap.size w w':=by
 have HT:=Lib.hid hT
 clear hT;obtain ⟨w1,hw1⟩:∃ w1,Hid ((w.alloc (.cells #[.slice A L.length c,.int .i64 next] 27)).alloc (.cells #[.int .i64 0,.int .i64 (-1),.int .i64 0,.string ⟨#[]⟩,.string ⟨#[]⟩,.slice none 0 0] 88)=w1):=⟨_,rfl⟩
 have hb1:Below w.heap.size w w1:=by rw [← hw1.out];exact ((Below.refl _ w).alloc (Nat.le_refl _) _).alloc (by simp) _
 have hx1:w1.heap[w.heap.size]? = some (.cells #[.slice A L.length c,.int .i64 next] 27 (0,0)):=by rw [← hw1.out];exact (Below.heap_alloc _ _ _ (by simp)).trans (heap_alloc_new w _)
 have hy1:w1.heap[w.heap.size+1]? = some (.cells #[.int .i64 0,.int .i64 (-1),.int .i64 0,.string ⟨#[]⟩,.string ⟨#[]⟩,.slice none 0 0] 88 (0,0)):=by
  rw [← hw1.out];have:=heap_alloc_new (w.alloc (.cells #[.slice A L.length c,.int .i64 next] 27)) (.cells #[.int .i64 0,.int .i64 (-1),.int .i64 0,.string ⟨#[]⟩,.string ⟨#[]⟩,.slice none 0 0] 88)
  simpa using this
 obtain ⟨T,hT1,hT2,hT3⟩:=zKL (HT.out.1)
 have hTl:T.length=L.length:=by rw [← hT1,List.length_map]
 have hTs:SlotsAt w1 w.heap.size A T:=fun hp=>by
  obtain ⟨a,h1,h2,h3⟩:=hT3 hp
  exact ⟨a,h1,h2,fun k s hs j u hu=>(hb1.cell (by rw [zAD];exact h2)).trans (h3 k s hs j u hu)⟩
 have ho1:RowsOwn w1 0 (some ⟨w.heap.size+1,0,none⟩) 1 [(⟨0,⟨-1,0,[],[],[]⟩⟩,none,0)]:=⟨by simp [cellsR],.inr ⟨w.heap.size+1,1,_,rfl,Nat.zero_le _,hy1,by simp,by simp [maxLen],by simp,rfl⟩⟩
 obtain ⟨pa,pc,w2,hr,ho2,hg2,hf2⟩:=zEd ho1 T A c hTs (by simp) (by omega)
 rw [hTl] at hr hf2;have hb2:Below w.heap.size w w2:=hb1.grown hg2 hb1.size (fun j hj=>by have hj:w.heap.size+1=j:=Option.some.inj hj;omega)
 have hAtt:AttrsOf (fun _=>True) w w.heap.size ([(⟨0,⟨-1,0,[],[],[]⟩⟩,none,0)]++T):=AttrsOf.app (fun s hs=>by rw [List.mem_singleton.1 hs];exact ⟨⟨fun h=>by simp at h,fun h=>by simp at h⟩,by simp⟩) hT2
 have hB2:RowsOwn w2 w.heap.size pa pc ([(⟨0,⟨-1,0,[],[],[]⟩⟩,none,0)]++T):=zLh ho2 (fun b hb=>by
  have hb':=hf2 b (by simpa [hTl,Nat.add_comm] using hb)
  rcases hb' with hb' | hb'
  ·have hb':w.heap.size+1=b:=Option.some.inj hb';omega
  ·have:=hb1.size;omega)
 have hfin:=TreeR.of (X:=fun _=>True) hB2 hAtt hb2 (L:=rowsL L) (by rw [List.map_append,hT1];rfl) (fun _ _=>trivial)
 have HFIN:=Lib.hid hfin
 have HB2:=Lib.hid hb2
 rw [← hw1.out] at hr;have hone:([(⟨0,⟨-1,0,[],[],[]⟩⟩,none,0)]:List SlotR).length=1:=rfl
 rw [hone] at hr;clear hb1 hx1 hy1 hTs ho1 ho2 hg2 hf2 hb2 hAtt hB2 hfin hone
 go_enter Tryz.func36,Tryz.ntmps36
 go_wp2_with (at_builtin;refine zAK _ rfl _ _ 25 rfl (.slice (some ⟨w.heap.size+1,0,none⟩) 1 1) (.slice A L.length c) (by simp [Act.eval]) (by simp [Act.eval]) hr ?_)
 go_ret;refine ⟨pa,pc,?_,HFIN.out,HB2.out⟩
 simp [rowsL,Nat.add_comm]
end
section
open Go.RowKit Go.Shelf
variable {X:Nat→Prop}
theorem zMo {L:List RowD} {k j:Nat} {r:RowD} (hj:j<k) (hk:k≤L.length) (hr:L[j]? = some r) (hlv:r.x.level=lvlL L k-1) (hno:∀ i z,j<i→i<k→L[i]? = some z→z.x.level≠lvlL L k-1):upI L k=(j:Int):=by
 have hs:L.take k=L.take j++r :: (L.take k).drop (j+1):=by
  conv=>lhs;rw [← List.take_append_drop j (L.take k)]
  rw [List.take_take,Nat.min_eq_left (Nat.le_of_lt hj)]
  congr 1
  have hl:j<(L.take k).length:=by rw [List.length_take];omega
  rw [List.drop_eq_getElem_cons hl]
  congr 1
  rw [List.getElem_take];exact (List.getElem?_eq_some_iff.1 hr).2
 have h1:lastX (lvlL L k-1) (r :: (L.take k).drop (j+1))=some 0:=by
  rw [lastX,zCK _ _ (fun z hz=>by
   obtain ⟨n,hn⟩:=List.mem_iff_getElem?.1 hz
   rw [List.getElem?_drop,List.getElem?_take] at hn
   split at hn
   ·exact hno (j+1+n) z (by omega) (by omega) hn
   ·cases hn)]
  simp [hlv]
 have h2:lastX (lvlL L k-1) (L.take k)=some j:=by
  rw [hs,zD3,h1];simp only [List.length_take]
  congr 1
  omega
 unfold upI;rw [h2]
theorem zMM {L:List RowD} {k:Nat} (hno:∀ i z,i<k→L[i]? = some z→z.x.level≠lvlL L k-1):upI L k = -1:=by
 have h2:lastX (lvlL L k-1) (L.take k)=none:=zCK _ _ fun z hz=>by
  obtain ⟨n,hn⟩:=List.mem_iff_getElem?.1 hz
  rw [List.getElem?_take] at hn
  split at hn
  ·exact hno n z (by assumption) hn
  ·cases hn
 unfold upI;rw [h2]
theorem zM5 (L:List RowD) (k:Nat):-1≤upI L k∧upI L k<(k:Int):=by
 unfold upI
 split
 ·rename_i j h
  have:=zFa _ _ _ h
  rw [List.length_take] at this;omega
 ·omega
theorem zCf (L:List RowD) (A:Option Addr) (c k:Nat) (w:World) (hL:RowsAt X w w.heap.size A L) (hs:SmallRows L) (hk:k<L.length) (U:Int) (hU:Hid (upI L k=U)) :
  Calls Tryz.prog 96 #[.slice A L.length c,.int .i64 (k:Int)] w (Ret w (.int .i64 U)):=by
 have HL:=Lib.hid hL
 obtain ⟨hs1,hs2⟩:=hs
 have HS:=Lib.hid hs2
 have n1:(L.length:Int)≤1000000:=by omega
 have n0:(0:Int)≤(L.length:Int):=by omega
 have k0:(0:Int)≤(k:Int):=by omega
 have k1:(k:Int)<(L.length:Int):=by omega
 obtain ⟨zk,hzk⟩:∃ z,Hid (L[k]? = some z):=⟨L[k],List.getElem?_eq_getElem _⟩
 have hlv:Hid (lvlL L k=zk.x.level):=zL6 hzk.out
 obtain ⟨⟨v0,v1⟩,_⟩:=HS.out zk (List.mem_of_getElem? hzk.out)
 have hwr:IntKind.i64.wrap (zk.x.level-1)=zk.x.level-1:=IntWalk.i64_in _ (by omega)
 obtain ⟨ad,hAd,_⟩:=HL.out (by omega)
 subst hAd;clear hL hs2
 go_enter Tryz.func96,Tryz.ntmps96
 go_wp2_with fail
 go_loopw [5] (fun i wr=>∃ j:Nat,i=.int .i64 ((j:Int)-1)∧j≤k∧Hid (∀ i z,j≤i→i<k→L[i]? = some z→z.x.level≠lvlL L k-1)∧Hid (Below w.heap.size w wr)) (fun i _=>(intOf i+1).toNat)
 case atStart=>exact ⟨k,rfl,Nat.le_refl _,fun i z h1 h2=>by omega,Below.refl _ _⟩
 case round =>
  obtain ⟨j,rfl,hj,hno,hbel⟩:=hrel
  cases j with
  | succ m =>
   have e:((m+1:Nat):Int)-1=(m:Int):=by omega
   rw [e];clear e;have j0:(0:Int)≤(m:Int):=by omega
   have j1:(m:Int)<(L.length:Int):=by omega
   obtain ⟨z,hz⟩:∃ z,Hid (L[m]? = some z):=⟨_,List.getElem?_eq_getElem (by omega)⟩
   have HLr:=Lib.hid (HL.out.below hbel.out)
   obtain ⟨_,A',c',_,_,q0,q1,q2,q3,q4,q5⟩:=HLr.out.row hz.out
   obtain ⟨_,A2,c2,_,_,g0,g1,g2,g3,g4,g5⟩:=HLr.out.row hzk.out
   clear q0 q2 q3 q4 q5 g0 g2 g3 g4 g5;by_cases hzi:z.x.level=zk.x.level-1
   ·have hb:(z.x.level == zk.x.level-1)=true:=by simpa using hzi
    have HF:Hid (U=(m:Int)):=by
     show _=_
     rw [← hU.out];exact zMo (by omega) (Nat.le_of_lt hk) hz.out (by rw [hlv.out];exact hzi) fun i z' h1 h2 h3=>hno.out i z' (by omega) h2 h3
    clear hzi
    go_wp2_with fail
    go_quiet (fail)
    clear hwr
    go_wp2_with fail
    go_ret;exact ⟨by rw [HF.out];rfl,hbel.out.trans ⟨rfl,rfl,rfl,Nat.le_refl _,fun _ _=>rfl⟩⟩
   ·have hb:(z.x.level == zk.x.level-1)=false:=by simpa using hzi
    have HNO:Hid (∀ i z,m≤i→i<k→L[i]? = some z→z.x.level≠lvlL L k-1):=fun i z' h1 h2 h3=>by
     by_cases e:i=m
     ·subst e
      rw [hz.out] at h3
      injection h3 with h3
      rw [← h3,hlv.out];exact hzi
     ·exact hno.out i z' (by omega) h2 h3
    clear hzi
    go_wp2_with fail
    go_quiet (fail)
    clear hwr
    go_wp2_with fail
    go_roundw
    case rel=>exact ⟨m,by go_num,by omega,HNO.out,hbel.out.trans ⟨rfl,rfl,rfl,Nat.le_refl _,fun _ _=>rfl⟩⟩
    case measure=>simp [intOf]
  | zero =>
   have HF:Hid (U = -1):=by
    show _=_
    rw [← hU.out];exact zMM fun i z h1 h2=>hno.out i z (by omega) h1 h2
   have e:((0:Nat):Int)-1=(-1:Int):=rfl
   rw [e];clear e
   go_wp2_with fail
   go_ret;exact ⟨by rw [HF.out];rfl,hbel.out⟩
theorem zDJ (L:List RowD) (A:Option Addr) (c i k:Nat) (w:World) (hL:RowsAt X w w.heap.size A L) (hs:SmallRows L) (hi:i<L.length) (hk:k<L.length) (r:Bool) (hr:Hid (isBelL L i k=r)) :
  Calls Tryz.prog 97 #[.slice A L.length c,.int .i64 (i:Int),.int .i64 (k:Int)] w (Ret w (.bool r)):=by
 have HL:=Lib.hid hL
 have HS:=Lib.hid hs
 have hs1:=hs.1
 have n1:(L.length:Int)≤1000000:=by omega
 have k0:(0:Int)≤(k:Int):=by omega
 have k1:(k:Int)<(L.length:Int):=by omega
 have hr':=hr.out
 unfold isBelL at hr';have HRR:=Lib.hid hr'
 clear hL hs hr'
 go_enter Tryz.func97,Tryz.ntmps97
 go_wp2_with fail
 go_loopw [1] (fun i wr=>∃ (x:Int) (n:Nat),i=.int .i64 x ∧ -1≤x∧x<(L.length:Int)∧x<(n:Int)∧Hid (belB L (k:Int) n x=r)∧Hid (Below w.heap.size w wr)) (fun i _=>(intOf i+1).toNat)
 case atStart=>exact ⟨i,L.length+1,rfl,by omega,by omega,by omega,HRR.out,Below.refl _ _⟩
 case round =>
  obtain ⟨x,n,rfl,hx0,hx1,hxn,hb,hbel⟩:=hrel
  by_cases hkx:(k:Int)<x
  ·obtain ⟨m,hm⟩:∃ m:Nat,x=(m:Int):=⟨x.toNat,by omega⟩
   subst hm;cases n with
   | zero=>omega
   | succ n =>
    obtain ⟨U,hU⟩:∃ U,Hid (upI L m=U):=⟨_,rfl⟩
    have hlt:=zM5 L m
    rw [hU.out] at hlt;have HB':Hid (belB L (k:Int) n U=r):=by
     have:=hb.out
     rw [belB,if_pos hkx,Int.toNat_natCast,hU.out] at this;exact this
    go_wp2_with fail;refine (zCf L A c m wr ((HL.out.below hbel.out).more hbel.out.size) HS.out (by omega) U hU).mono ?_
    rintro e w2 ⟨rfl,hb2⟩;have HB2:=Lib.hid (hbel.out.trans (hb2.mono hbel.out.size))
    clear hb2
    go_wp2_with fail
    go_roundw
    case rel=>exact ⟨U,n,rfl,by omega,by omega,by omega,HB'.out,HB2.out⟩
    case measure=>simp [intOf];omega
  ·have HF:Hid ((x == (k:Int))=r):=by
    show _=_
    rw [← hb.out];cases n with
    | zero=>unfold belB;by_cases e:x=(k:Int) <;> simp [e]
    | succ n=>rw [belB,if_neg hkx];by_cases e:x=(k:Int) <;> simp [e]
   go_wp2_with fail
   go_ret;exact ⟨by rw [← HF.out];rfl,hbel.out⟩
theorem zHm (A:Option Addr) (c:Nat) (l:List Int) (x:Int) (w:World) (hr:intRow w (.slice A l.length c) l) (hl:l.length≤1000000) (r:Bool) (hres:Hid (decide (x∈l)=r)):Calls Tryz.prog 38 #[.slice A l.length c,.int .i64 x] w (Ret w (.bool r)):=by
 have HR:=Lib.hid hr
 have l0:(0:Int)≤(l.length:Int):=by omega
 have l1:(l.length:Int)≤1000000:=by omega
 clear hr
 go_enter Tryz.func38,Tryz.ntmps38
 go_wp2_with fail
 go_loopw [5] (fun i wr=>∃ k:Nat,i=.int .i64 (k:Int)∧k≤l.length∧Hid (x ∉ l.take k)∧Hid (wr=w)) (fun i _=>l.length-(intOf i).toNat)
 case atStart=>exact ⟨0,rfl,Nat.zero_le _,by show _ ∉ _;simp,rfl⟩
 case round =>
  obtain ⟨k,rfl,hk,hno,hw⟩:=hrel
  have hw':=hw.out
  subst hw';have k0:(0:Int)≤(k:Int):=by omega
  by_cases hkl:k<l.length
  ·have k1:(k:Int)<(l.length:Int):=by omega
   obtain ⟨y,hy⟩:∃ y,Hid (l[k]? = some y):=⟨l[k],List.getElem?_eq_getElem _⟩
   obtain ⟨g,hgA⟩:∃ g,A=some ⟨g,0,none⟩:=by
    rcases HR.out.2 with ⟨_,h⟩ | ⟨g,cap,cur,h,_⟩
    ·omega
    ·injection h with h _ _;exact ⟨g,h⟩
   subst hgA;have ck:=zAd HR.out k (.int .i64 y) (by rw [List.getElem?_map,hy.out];rfl)
   by_cases hyx:y=x
   ·have hb:(y == x)=true:=by simpa using hyx
    have HF:Hid (r=true):=by
     show _=_
     rw [← hres.out];exact decide_eq_true (hyx ▸ List.mem_of_getElem? hy.out)
    clear hyx
    go_wp2_with fail
    go_ret;exact ⟨by rw [HF.out];rfl,Below.refl _ _⟩
   ·have hb:(y == x)=false:=by simpa using hyx
    have HNO:Hid (x ∉ l.take (k+1)):=by
     show _ ∉ _
     rw [List.take_add_one,hy.out,List.mem_append,not_or];exact ⟨hno.out,by simpa using fun e=>hyx e.symm⟩
    clear hyx
    go_wp2_with fail
    go_roundw
    case rel=>exact ⟨k+1,by go_num,by omega,HNO.out,trivial⟩
    case measure=>simp [intOf];omega
  ·have k1:¬ (k:Int)<(l.length:Int):=by omega
   have HF:Hid (r=false):=by
    show _=_
    rw [← hres.out];have:=hno.out
    rw [List.take_of_length_le (by omega)] at this
    exact decide_eq_false this
   go_wp2_with fail
   go_ret;exact ⟨by rw [HF.out];rfl,Below.refl _ _⟩
end
section
open Go.RowKit Go.Shelf
variable {X:Nat→Prop}
theorem zMO (a b:Int):(a == b)=decide (a=b):=by by_cases h:a=b <;> simp [h]
theorem zDK (L:List RowD) (A:Option Addr) (c:Nat) (axis:Int) (k i:Nat) (w:World) (hL:RowsAt X w w.heap.size A L) (hs:SmallRows L) (ha:1≤axis∧axis≤8) (hk:k<L.length) (hi:i<L.length) (r:Bool) (hr:Hid (leadsN L axis k i=r)) :
  Calls Tryz.prog 62 #[.slice A L.length c,.int .i64 axis,.int .i64 (k:Int),.int .i64 (i:Int)] w (Ret w (.bool r)):=by
 have HL:=Lib.hid hL
 have HS:=Lib.hid hs
 have hs1:=hs.1
 have n1:(L.length:Int)≤1000000:=by omega
 have k0:(0:Int)≤(k:Int):=by omega
 have i0:(0:Int)≤(i:Int):=by omega
 obtain ⟨Ui,hUi⟩:∃ U,Hid (upI L i=U):=⟨_,rfl⟩
 obtain ⟨Uk,hUk⟩:∃ U,Hid (upI L k=U):=⟨_,rfl⟩
 clear hL hs;by_cases e1:axis=1
 ·subst e1
  go_enter Tryz.func62,Tryz.ntmps62
  by_cases h:(k:Int)<(i:Int)
  ·go_wp2_with fail
   refine (zCf L A c i w (HL.out) HS.out hi Ui hUi).mono ?_
   rintro e w1 ⟨rfl,hb1⟩;have HB1:=Lib.hid hb1
   clear hb1
   go_wp2_with fail
   go_ret;refine ⟨?_,HB1.out⟩
   rw [← hr.out];unfold leadsN;have h':k<i:=by omega
   simp [h',hUi.out,zMO]
  ·go_wp2_with fail
   go_ret;refine ⟨?_,Below.refl _ _⟩
   rw [← hr.out];unfold leadsN;have h':¬ k<i:=by omega
   simp [h']
 by_cases e2:axis=2
 ·subst e2
  obtain ⟨B,hB⟩:∃ B,Hid (isBelL L i k=B):=⟨_,rfl⟩
  go_enter Tryz.func62,Tryz.ntmps62
  by_cases h:(k:Int)<(i:Int)
  ·go_wp2_with fail
   refine (zDJ L A c i k w HL.out HS.out hi hk B hB).mono ?_
   rintro e w1 ⟨rfl,hb1⟩;have HB1:=Lib.hid hb1
   clear hb1
   go_wp2_with fail
   go_ret;refine ⟨?_,HB1.out⟩
   rw [← hr.out];unfold leadsN;have h':k<i:=by omega
   simp [h',hB.out]
  ·go_wp2_with fail
   go_ret;refine ⟨?_,Below.refl _ _⟩
   rw [← hr.out];unfold leadsN;have h':¬ k<i:=by omega
   simp [h']
 by_cases e3:axis=3
 ·subst e3
  obtain ⟨B,hB⟩:∃ B,Hid (isBelL L i k=B):=⟨_,rfl⟩
  go_enter Tryz.func62,Tryz.ntmps62
  by_cases h:(k:Int)≤(i:Int)
  ·go_wp2_with fail
   refine (zDJ L A c i k w HL.out HS.out hi hk B hB).mono ?_
   rintro e w1 ⟨rfl,hb1⟩;have HB1:=Lib.hid hb1
   clear hb1
   go_wp2_with fail
   go_ret;refine ⟨?_,HB1.out⟩
   rw [← hr.out];unfold leadsN;have h':k≤i:=by omega
   simp [h',hB.out]
  ·go_wp2_with fail
   go_ret;refine ⟨?_,Below.refl _ _⟩
   rw [← hr.out];unfold leadsN;have h':¬ k≤i:=by omega
   simp [h']
 by_cases e4:axis=4
 ·subst e4
  go_enter Tryz.func62,Tryz.ntmps62
  go_wp2_with fail;refine (zCf L A c k w (HL.out) HS.out hk Uk hUk).mono ?_
  rintro e w1 ⟨rfl,hb1⟩;have HB1:=Lib.hid hb1
  clear hb1
  go_wp2_with fail
  go_ret;refine ⟨?_,HB1.out⟩
  rw [← hr.out];unfold leadsN;simp [hUk.out,zMO]
 by_cases e5:axis=5
 ·subst e5
  obtain ⟨B,hB⟩:∃ B,Hid (isBelL L k i=B):=⟨_,rfl⟩
  go_enter Tryz.func62,Tryz.ntmps62
  by_cases h:(i:Int)<(k:Int)
  ·go_wp2_with fail
   refine (zDJ L A c k i w HL.out HS.out hk hi B hB).mono ?_
   rintro e w1 ⟨rfl,hb1⟩;have HB1:=Lib.hid hb1
   clear hb1
   go_wp2_with fail
   go_ret;refine ⟨?_,HB1.out⟩
   rw [← hr.out];unfold leadsN;have h':i<k:=by omega
   simp [h',hB.out]
  ·go_wp2_with fail
   go_ret;refine ⟨?_,Below.refl _ _⟩
   rw [← hr.out];unfold leadsN;have h':¬ i<k:=by omega
   simp [h']
 by_cases e6:axis=6
 ·subst e6
  go_enter Tryz.func62,Tryz.ntmps62
  by_cases h:(0:Int)<(k:Int)
  ·by_cases h2:(k:Int)<(i:Int)
   ·go_wp2_with fail
    refine (zCf L A c i w (HL.out) HS.out hi Ui hUi).mono ?_
    rintro e w1 ⟨rfl,hb1⟩;have HB1:=Lib.hid hb1
    clear hb1
    go_wp2_with fail;refine (zCf L A c k w1 ((HL.out.below HB1.out).more HB1.out.size) HS.out hk Uk hUk).mono ?_
    rintro e w2 ⟨rfl,hb2⟩;have HB2:=Lib.hid (HB1.out.trans (hb2.mono HB1.out.size))
    clear hb2
    go_wp2_with fail
    go_ret;refine ⟨?_,HB2.out⟩
    rw [← hr.out];unfold leadsN;have h':0<k:=by omega
    have h2':k<i:=by omega
    simp [h',h2',hUi.out,hUk.out,zMO]
   ·go_wp2_with fail
    go_ret;refine ⟨?_,Below.refl _ _⟩
    rw [← hr.out];unfold leadsN;have h2':¬ k<i:=by omega
    simp [h2']
  ·go_wp2_with fail
   go_ret;refine ⟨?_,Below.refl _ _⟩
   rw [← hr.out];unfold leadsN;have h':k=0:=by omega
   simp [h']
 by_cases e7:axis=7
 ·subst e7
  go_enter Tryz.func62,Tryz.ntmps62
  by_cases h:(0:Int)<(k:Int)
  ·by_cases h1:(0:Int)<(i:Int)
   ·by_cases h2:(i:Int)<(k:Int)
    ·go_wp2_with fail
     refine (zCf L A c i w (HL.out) HS.out hi Ui hUi).mono ?_
     rintro e w1 ⟨rfl,hb1⟩;have HB1:=Lib.hid hb1
     clear hb1
     go_wp2_with fail;refine (zCf L A c k w1 ((HL.out.below HB1.out).more HB1.out.size) HS.out hk Uk hUk).mono ?_
     rintro e w2 ⟨rfl,hb2⟩;have HB2:=Lib.hid (HB1.out.trans (hb2.mono HB1.out.size))
     clear hb2
     go_wp2_with fail
     go_ret;refine ⟨?_,HB2.out⟩
     rw [← hr.out];unfold leadsN;have h':0<k:=by omega
     have h1':0<i:=by omega
     have h2':i<k:=by omega
     simp [h',h1',h2',hUi.out,hUk.out,zMO]
    ·go_wp2_with fail
     go_ret;refine ⟨?_,Below.refl _ _⟩
     rw [← hr.out];unfold leadsN;have h2':¬ i<k:=by omega
     simp [h2']
   ·go_wp2_with fail
    go_ret;refine ⟨?_,Below.refl _ _⟩
    rw [← hr.out];unfold leadsN;have h1':i=0:=by omega
    simp [h1']
  ·go_wp2_with fail
   go_ret;refine ⟨?_,Below.refl _ _⟩
   rw [← hr.out];unfold leadsN;have h':k=0:=by omega
   simp [h']
 ·have e8:axis=8:=by omega
  subst e8
  go_enter Tryz.func62,Tryz.ntmps62
  go_wp2_with fail
  go_ret;refine ⟨?_,Below.refl _ _⟩
  rw [← hr.out];unfold leadsN;simp only [Int.reduceEq,if_false];by_cases e:i=k
  ·simp [e]
  ·have:¬ ((i:Int)=(k:Int)):=by omega
   simp [e,this]
theorem zEW (s:StepD) (A:Option Addr) (n c:Nat) (x:ItemD) (A':Option Addr) (n' c':Nat) (w:World) :
  Calls Tryz.prog 63 #[.agg #[.int .i64 s.axis,.int .i64 s.test,.string ⟨s.name.toArray⟩,.slice A n c],.agg #[.int .i64 x.level,.int .i64 x.kind,.string ⟨x.name.toArray⟩,.string ⟨x.text.toArray⟩,.slice A' n' c']] w (Ret w (.bool (testR s x.node))):=by
 have hb:Below w.heap.size w ((w.alloc (.cells #[.int .i64 s.axis,.int .i64 s.test,.string ⟨s.name.toArray⟩,.slice A n c] 45)).alloc (.cells #[.int .i64 x.level,.int .i64 x.kind,.string ⟨x.name.toArray⟩,.string ⟨x.text.toArray⟩,.slice A' n' c'] 75)):=((Below.refl _ w).alloc (Nat.le_refl _) _).alloc (by simp) _
 have HB:=Lib.hid hb
 clear hb;unfold testR ItemD.node;by_cases h1:s.test=1
 ·rw [if_pos h1]
  rw [h1] at HB ⊢;by_cases h2:x.kind=1
  ·rw [h2] at HB ⊢
   go_enter Tryz.func63,Tryz.ntmps63
   go_wp2_with fail
   go_ret;exact ⟨by simp [zG5],HB.out⟩
  ·have b2:(x.kind == 1)=false:=by simpa using h2
   go_enter Tryz.func63,Tryz.ntmps63
   go_wp2_with fail
   go_ret;exact ⟨by simp [h2],HB.out⟩
 rw [if_neg h1];have b1:(s.test == 1)=false:=by simpa using h1
 by_cases h4:s.test=4
 ·rw [h4] at HB b1 ⊢
  go_enter Tryz.func63,Tryz.ntmps63
  go_wp2_with fail
  go_ret;exact ⟨by simp,HB.out⟩
 have b4:(s.test == 4)=false:=by simpa using h4
 by_cases h2:s.test=2
 ·rw [h2] at HB b1 b4 ⊢
  by_cases h:x.kind=1
  ·rw [h] at HB ⊢
   go_enter Tryz.func63,Tryz.ntmps63
   go_wp2_with fail
   go_ret;exact ⟨by simp,HB.out⟩
  ·have b2:(x.kind == 1)=false:=by simpa using h
   go_enter Tryz.func63,Tryz.ntmps63
   go_wp2_with fail
   go_ret;exact ⟨by simp [h],HB.out⟩
 have b2:(s.test == 2)=false:=by simpa using h2
 by_cases h3:s.test=3
 ·rw [h3] at HB b1 b2 b4 ⊢
  by_cases h:x.kind=2
  ·rw [h] at HB ⊢
   go_enter Tryz.func63,Tryz.ntmps63
   go_wp2_with fail
   go_ret;exact ⟨by simp,HB.out⟩
  ·have b2:(x.kind == 2)=false:=by simpa using h
   go_enter Tryz.func63,Tryz.ntmps63
   go_wp2_with fail
   go_ret;exact ⟨by simp [h],HB.out⟩
 have b3:(s.test == 3)=false:=by simpa using h3
 go_enter Tryz.func63,Tryz.ntmps63
 go_wp2_with fail
 go_ret;exact ⟨by simp [h2,h3,h4],HB.out⟩
end
section
open Go.RowKit Go.Shelf
variable {X:Nat→Prop}
theorem zHf {α:Type} (p:α→Bool) (l:List α) {k:Nat} {x:α} (hx:l[k]? = some x) (h:(l.take k).any p=false):(l.take (k+1)).any p=p x:=by
 rw [List.take_add_one,hx,List.any_append,h];simp
theorem zJh (L:List RowD) (A:Option Addr) (c:Nat) (p:PredD) (k n many:Nat) (w:World) (hL:RowsAt X w w.heap.size A L) (hs:SmallRows L) (hk:k<L.length) (hn:n≤1000000) (hm:many≤1000000) (r:Bool) (hr:Hid (keptN L p k n many=r)) :
  Calls Tryz.prog 64 #[.slice A L.length c,.agg #[.int .i64 p.kind,.int .i64 p.num,.string ⟨p.name.toArray⟩,.string ⟨p.value.toArray⟩],.agg #[.int .i64 (k:Int),.int .i64 (n:Int),.int .i64 (many:Int)]] w (Ret w (.bool r)):=by
 have HS:=Lib.hid hs
 have hs1:=hs.1
 have n1:(L.length:Int)≤1000000:=by omega
 have n0:(0:Int)≤(L.length:Int):=by omega
 have k0:(0:Int)≤(k:Int):=by omega
 have k1:(k:Int)<(L.length:Int):=by omega
 have a0:(0:Int)≤(n:Int):=by omega
 have a1:(n:Int)≤1000000:=by omega
 have m0:(0:Int)≤(many:Int):=by omega
 have m1:(many:Int)≤1000000:=by omega
 obtain ⟨w1,hw1⟩:∃ w1,Hid ((w.alloc (.cells #[.int .i64 p.kind,.int .i64 p.num,.string ⟨p.name.toArray⟩,.string ⟨p.value.toArray⟩] 102)).alloc (.cells #[.int .i64 (k:Int),.int .i64 (n:Int),.int .i64 (many:Int)] 123)=w1):=⟨_,rfl⟩
 have hb1:Below w.heap.size w w1:=by rw [← hw1.out];exact ((Below.refl _ w).alloc (Nat.le_refl _) _).alloc (by simp) _
 have HX1:Hid (w1.heap[w.heap.size]? = some (.cells (predV p) 102 (0,0))):=by show _=_;rw [← hw1.out];exact (Below.heap_alloc _ _ _ (by simp)).trans (heap_alloc_new w _)
 have HY1:Hid (w1.heap[w.heap.size+1]? = some (.cells #[.int .i64 (k:Int),.int .i64 (n:Int),.int .i64 (many:Int)] 123 (0,0))):=by
  show _=_
  rw [← hw1.out];have:=heap_alloc_new (w.alloc (.cells #[.int .i64 p.kind,.int .i64 p.num,.string ⟨p.name.toArray⟩,.string ⟨p.value.toArray⟩] 102)) (.cells #[.int .i64 (k:Int),.int .i64 (n:Int),.int .i64 (many:Int)] 123)
  simpa using this
 have HB1:=Lib.hid hb1
 have HL1:=Lib.hid ((hL.below hb1).more hb1.size)
 have HHI:Hid (∀ V:World,Below w1.heap.size w1 V→V.cell? ⟨w.heap.size,0,none⟩=some (.int .i64 p.kind)∧V.cell? ⟨w.heap.size,2,none⟩=some (.string ⟨p.name.toArray⟩)∧V.cell? ⟨w.heap.size,3,none⟩=some (.string ⟨p.value.toArray⟩)∧V.cell? ⟨w.heap.size+1,0,none⟩=some (.int .i64 (k:Int))):=fun V hV=>by
  have hx:=(hV.block _ (Array.getElem?_eq_some_iff.1 HX1.out).1).trans HX1.out
  have hy:=(hV.block _ (Array.getElem?_eq_some_iff.1 HY1.out).1).trans HY1.out
  exact ⟨zAA hx 0 _ rfl,zAA hx 2 _ rfl,zAA hx 3 _ rfl,zAA hy 0 _ rfl⟩
 have c0:w1.cell? ⟨w.heap.size,0,none⟩=some (.int .i64 p.kind):=zAA HX1.out 0 _ rfl
 have c1:w1.cell? ⟨w.heap.size,1,none⟩=some (.int .i64 p.num):=zAA HX1.out 1 _ rfl
 have d1:=zAA HY1.out 1 _ rfl
 have d2:=zAA HY1.out 2 _ rfl
 have d0:=zAA HY1.out 0 _ rfl
 obtain ⟨ad,hAd,_⟩:=HL1.out (by omega)
 subst hAd;have hr':=hr.out
 unfold keptN at hr';clear hL hs hb1 hr;by_cases h1:p.kind=1
 ·rw [if_pos h1] at hr'
  rw [h1] at c0;have HR:=Lib.hid hr'
  clear hr' h1 d0 d2
  go_enter Tryz.func64,Tryz.ntmps64
  go_upto_region 1 with (fail)
  rw [hw1.out]
  go_wp2_with fail
  go_ret;exact ⟨by rw [← HR.out,← zMO];rfl,HB1.out⟩
 rw [if_neg h1] at hr';have b1:(p.kind == 1)=false:=by simpa using h1
 by_cases h2:p.kind=2
 ·rw [if_pos h2] at hr'
  rw [h2] at c0 b1;have HR:=Lib.hid hr'
  clear hr' h1 h2 d0 c1
  go_enter Tryz.func64,Tryz.ntmps64
  go_upto_region 1 with (fail)
  rw [hw1.out]
  go_wp2_with fail
  go_ret;exact ⟨by rw [← HR.out,← zMO];rfl,HB1.out⟩
 rw [if_neg h2] at hr';have b2:(p.kind == 2)=false:=by simpa using h2
 by_cases h5:p.kind=5
 ·rw [if_pos h5] at hr'
  rw [h5] at c0 b1 b2;unfold saysN at hr';have HR:=Lib.hid hr'
  clear hr' h1 h2 h5 d0 d1 d2 c1
  go_enter Tryz.func64,Tryz.ntmps64
  go_upto_region 1 with (fail)
  rw [hw1.out]
  go_wp2_with fail
  go_loopw [7] (fun o wr=>∃ i:Nat,o=.int .i64 (i:Int)∧i≤L.length∧Hid (((List.range L.length).take i).any (fun i=>leadsN L 1 k i && decide ((dL L i).kind=2) && decide ((dL L i).text=p.value))=false)∧Hid (Below w1.heap.size w1 wr)) (fun o _=>L.length-(intOf o).toNat)
  case atStart=>exact ⟨0,rfl,Nat.zero_le _,rfl,Below.refl _ _⟩
  case round =>
   obtain ⟨i,rfl,hi,hno,hbel⟩:=hrel
   have i0:(0:Int)≤(i:Int):=by omega
   by_cases hil:i<L.length
   ·have i1:(i:Int)<(L.length:Int):=by omega
    obtain ⟨z,hz⟩:∃ z,Hid (L[i]? = some z):=⟨L[i],List.getElem?_eq_getElem _⟩
    have HLr:=Lib.hid (HL1.out.below hbel.out)
    obtain ⟨_,Az,cz,_,_,q0,q1,q2,q3,q4,q5⟩:=HLr.out.row hz.out
    have hzb:=(HLr.out.row hz.out).1
    have hd:dL L i=z.x.node:=by unfold dL;rw [hz.out]
    obtain ⟨B,hB⟩:∃ B,Hid (leadsN L 1 k i=B):=⟨_,rfl⟩
    obtain ⟨kz,hkz⟩:∃ kz,Hid (z.x.kind=kz):=⟨_,rfl⟩
    obtain ⟨tz,htz⟩:∃ tz,Hid (z.x.text=tz):=⟨_,rfl⟩
    have hst:=zHf (fun i=>leadsN L 1 k i && decide ((dL L i).kind=2) && decide ((dL L i).text=p.value)) (List.range L.length) (k:=i) (x:=i) (by rw [List.getElem?_range hil]) hno.out
    rw [hB.out,hd] at hst;have HST:Hid (((List.range L.length).take (i+1)).any (fun i=>leadsN L 1 k i && decide ((dL L i).kind=2) && decide ((dL L i).text=p.value))=(B && decide (kz=2) && decide (tz=p.value))):=by rw [← hkz.out,← htz.out];exact hst
    have HSV:Hid (∀ V:World,Below wr.heap.size wr V→(V.cell? ⟨w.heap.size,3,none⟩=some (.string ⟨p.value.toArray⟩)∧V.cell? ⟨w.heap.size+1,0,none⟩=some (.int .i64 (k:Int)))∧V.cell? ⟨(ad.add (i * 6)).block,(ad.add (i * 6)).off+2,none⟩=some (.int .i64 kz)∧V.cell? ⟨(ad.add (i * 6)).block,(ad.add (i * 6)).off+4,none⟩=some (.string ⟨tz.toArray⟩)):=fun V hV=>by
     obtain ⟨_,_,e3,e4⟩:=HHI.out V (hbel.out.trans (hV.mono hbel.out.size))
     have hlt:ad.block<wr.heap.size:=Nat.lt_of_lt_of_le hzb hbel.out.size
     rw [← hkz.out,← htz.out];exact ⟨⟨e3,e4⟩,(hV.cell (by show (ad.add _).block<_;rw [zAD];exact hlt)).trans q2,(hV.cell (by show (ad.add _).block<_;rw [zAD];exact hlt)).trans q4⟩
    have hbd:Below wr.heap.size wr wr.drew:=⟨rfl,rfl,rfl,Nat.le_refl _,fun _ _=>rfl⟩
    clear q0 q1 q2 q3 q4 q5 hst hd hzb c0 b1 b2
    go_wp2_with fail;refine wp_region_held_drew (S:=fun V=>(V.cell? ⟨w.heap.size,3,none⟩=some (.string ⟨p.value.toArray⟩)∧V.cell? ⟨w.heap.size+1,0,none⟩=some (.int .i64 (k:Int)))∧V.cell? ⟨(ad.add (i * 6)).block,(ad.add (i * 6)).off+2,none⟩=some (.int .i64 kz)∧V.cell? ⟨(ad.add (i * 6)).block,(ad.add (i * 6)).off+4,none⟩=some (.string ⟨tz.toArray⟩)) (by kernel_rfl) (HSV.out _ hbd) (fun hHeld=>?_)
    refine tkv 0 (h:=tkv 1 (h:=tkv 2 (h:=tkv 3 (h:=?_))))
    obtain ⟨v,hv⟩:∃ v,Hid (wr.drew=v):=⟨_,rfl⟩
    rw [hv.out] at hbd hHeld ⊢;have HBV:=Lib.hid (hbel.out.trans (hbd.mono hbel.out.size))
    have HBD:=Lib.hid hbd
    clear hbd;refine rdy 4 (fun K hK=>?_)
    go_simp
    refine (zDK L (some ad) c 1 k i v ((HL1.out.below HBV.out).more HBV.out.size) HS.out (by decide) hk hil B hB).mono ?_
    rintro e v2 ⟨rfl,hb2⟩;have HBW:=Lib.hid (HBD.out.trans (hb2.mono HBD.out.size))
    have HBV2:=Lib.hid (HBV.out.trans (hb2.mono HBV.out.size))
    clear hb2;refine hK.out _ _ (HSV.out _ HBW.out) (fun hHeld=>?_)
    clear hK K
    try go_frame
    cases B with
    | false =>
     have HNO:Hid (((List.range L.length).take (i+1)).any (fun i=>leadsN L 1 k i && decide ((dL L i).kind=2) && decide ((dL L i).text=p.value))=false):=by show _=_;rw [HST.out];rfl
     refine tkv 5 (h:=?_)
     refine tkn 6 (h:=tkn 7 (h:=tkn 8 (h:=tkn 9 (h:=tkn 10 (h:=tkn 11 (h:=?_))))))
     refine tkn 12 (h:=?_)
     refine tkv 13 (h:=tkv 14 (h:=?_))
     refine tkn 15 (h:=tkn 16 (h:=tkn 17 (h:=tkn 18 (h:=tkn 19 (h:=tkn 20 (h:=?_))))))
     refine tkn 21 (h:=tkn 22 (h:=tkn 23 (h:=?_)))
     refine tkv 24 (h:=?_)
     refine wpAnyH_done (by kernel_rfl) ?_ _
     clear hHeld
     go_wp2_with fail
     go_roundw
     case rel=>exact ⟨i+1,by go_num,by omega,HNO.out,HBV2.out⟩
     case measure=>simp [intOf];omega
    | true =>
     by_cases hk2:kz=2
     ·subst hk2
      by_cases htx:tz=p.value
      ·have HF:Hid (r=true):=by
        show _=_
        rw [← HR.out];have h1:(((List.range L.length).take (i+1)).any (fun i=>leadsN L 1 k i && decide ((dL L i).kind=2) && decide ((dL L i).text=p.value)))=true:=by rw [HST.out];simp [htx]
        rw [List.any_eq_true] at h1 ⊢;obtain ⟨y,hy,hp⟩:=h1
        exact ⟨y,List.mem_of_mem_take hy,hp⟩
       subst htx;refine tkv 5 (h:=tkv 6 (h:=tkv 7 (h:=tkv 8 (h:=tkv 9 (h:=tkv 10 (h:=?_))))))
       refine tkv 11 (h:=tkv 12 (h:=tkv 13 (h:=tkv 14 (h:=tkv 15 (h:=tkv 16 (h:=?_))))))
       refine tkv 17 (h:=tkv 18 (h:=tkv 19 (h:=tkv 20 (h:=tkv 21 (h:=tkv 22 (h:=?_))))))
       refine tkv 23 (h:=tkv 24 (h:=?_))
       refine wpAnyH_done (by kernel_rfl) ?_ _
       clear hHeld
       go_wp2_with fail
       go_ret;exact ⟨by rw [HF.out];rfl,HB1.out.trans (HBV2.out.mono HB1.out.size)⟩
      ·have bt:(tz == p.value)=false:=by simpa using htx
       have HNO:Hid (((List.range L.length).take (i+1)).any (fun i=>leadsN L 1 k i && decide ((dL L i).kind=2) && decide ((dL L i).text=p.value))=false):=by show _=_;rw [HST.out];simp [htx]
       clear htx;refine tkv 5 (h:=tkv 6 (h:=tkv 7 (h:=tkv 8 (h:=tkv 9 (h:=tkv 10 (h:=?_))))))
       refine tkv 11 (h:=tkv 12 (h:=tkv 13 (h:=tkv 14 (h:=tkv 15 (h:=tkv 16 (h:=?_))))))
       refine tkv 17 (h:=tkv 18 (h:=tkv 19 (h:=tkv 20 (h:=tkv 21 (h:=tkv 22 (h:=?_))))))
       refine tkv 23 (h:=tkv 24 (h:=?_))
       refine wpAnyH_done (by kernel_rfl) ?_ _
       clear hHeld
       go_wp2_with fail
       go_roundw
       case rel=>exact ⟨i+1,by go_num,by omega,HNO.out,HBV2.out⟩
       case measure=>simp [intOf];omega
     ·have bk:(kz == 2)=false:=by simpa using hk2
      have HNO:Hid (((List.range L.length).take (i+1)).any (fun i=>leadsN L 1 k i && decide ((dL L i).kind=2) && decide ((dL L i).text=p.value))=false):=by show _=_;rw [HST.out];simp [hk2]
      clear hk2;refine tkv 5 (h:=tkv 6 (h:=tkv 7 (h:=tkv 8 (h:=tkv 9 (h:=tkv 10 (h:=?_))))))
      refine tkv 11 (h:=tkv 12 (h:=tkv 13 (h:=tkv 14 (h:=?_))))
      refine tkn 15 (h:=tkn 16 (h:=tkn 17 (h:=tkn 18 (h:=tkn 19 (h:=tkn 20 (h:=?_))))))
      refine tkn 21 (h:=tkn 22 (h:=tkn 23 (h:=?_)))
      refine tkv 24 (h:=?_)
      refine wpAnyH_done (by kernel_rfl) ?_ _
      clear hHeld
      go_wp2_with fail
      go_roundw
      case rel=>exact ⟨i+1,by go_num,by omega,HNO.out,HBV2.out⟩
      case measure=>simp [intOf];omega
   ·have i1:¬ (i:Int)<(L.length:Int):=by omega
    have HF:Hid (r=false):=by
     show _=_
     rw [← HR.out];have:=hno.out
     rw [List.take_of_length_le (by simp;omega)] at this
     exact this
    go_wp2_with fail
    go_ret;exact ⟨by rw [HF.out];rfl,HB1.out.trans (hbel.out.mono HB1.out.size)⟩
 rw [if_neg h5] at hr';have b5:(p.kind == 5)=false:=by simpa using h5
 obtain ⟨z,hz⟩:∃ z,Hid (L[k]? = some z):=⟨L[k],List.getElem?_eq_getElem _⟩
 have hd:dL L k=z.x.node:=by unfold dL;rw [hz.out]
 rw [hd] at hr';have HR:Hid (z.x.attrs.any (hasW p)=r):=hr'
 obtain ⟨hzb,Az,cz,haz,hcz,q0,q1,q2,q3,q4,q5⟩:=HL1.out.row hz.out
 have hal:=(HS.out.2 z (List.mem_of_getElem? hz.out)).2.1
 have HAZ:=Lib.hid haz.1
 have z0:(0:Int)≤(z.x.attrs.length:Int):=by omega
 have z1:(z.x.attrs.length:Int)≤1000000:=by omega
 clear hr' h1 h2 h5 d1 d2 c1 q0 q1 q2 q3 q4 hd haz hcz
 go_enter Tryz.func64,Tryz.ntmps64
 go_upto_region 1 with (fail)
 rw [hw1.out]
 go_wp2_with fail;clear c0 d0 q5
 go_loopw [9] (fun o wr=>∃ i:Nat,o=.int .i64 (i:Int)∧i≤z.x.attrs.length∧Hid ((z.x.attrs.take i).any (hasW p)=false)∧Hid (Below w1.heap.size w1 wr)) (fun o _=>z.x.attrs.length-(intOf o).toNat)
 case atStart=>exact ⟨0,rfl,Nat.zero_le _,rfl,Below.refl _ _⟩
 case round =>
  obtain ⟨i,rfl,hi,hno,hbel⟩:=hrel
  have i0:(0:Int)≤(i:Int):=by omega
  by_cases hil:i<z.x.attrs.length
  ·have i1:(i:Int)<(z.x.attrs.length:Int):=by omega
   obtain ⟨a,ha⟩:∃ a,Hid (z.x.attrs[i]? = some a):=⟨z.x.attrs[i],List.getElem?_eq_getElem _⟩
   obtain ⟨az,rfl,hazb,hat⟩:=(HAZ.out.below hbel.out) (by omega)
   obtain ⟨g1,g2⟩:=hat i a ha.out
   obtain ⟨pk,hpk⟩:∃ pk,Hid (p.kind=pk):=⟨_,rfl⟩
   obtain ⟨an,han⟩:∃ an,Hid (a.name=an):=⟨_,rfl⟩
   obtain ⟨av,hav⟩:∃ av,Hid (a.value=av):=⟨_,rfl⟩
   have hst:=zHf (hasW p) z.x.attrs ha.out hno.out
   have hha:hasW p a=(decide (an=p.name) && (decide (pk=3) || decide (av=p.value))):=by unfold hasW;rw [hpk.out,han.out,hav.out]
   rw [hha] at hst;have HST:=Lib.hid hst
   have HTR:Hid ((decide (an=p.name) && (decide (pk=3) || decide (av=p.value)))=true→r=true):=fun h=>by
    rw [← HR.out,List.any_eq_true];exact ⟨a,List.mem_of_getElem? ha.out,hha.trans h⟩
   have hlt:az.block<wr.heap.size:=Nat.lt_of_lt_of_le hazb hbel.out.size
   have HSV:Hid (∀ V:World,Below wr.heap.size wr V→(V.cell? ⟨w.heap.size,0,none⟩=some (.int .i64 pk)∧V.cell? ⟨w.heap.size,2,none⟩=some (.string ⟨p.name.toArray⟩)∧V.cell? ⟨w.heap.size,3,none⟩=some (.string ⟨p.value.toArray⟩))∧V.cell? (az.add (i * 2))=some (.string ⟨an.toArray⟩)∧V.cell? ⟨(az.add (i * 2)).block,(az.add (i * 2)).off+1,none⟩=some (.string ⟨av.toArray⟩)):=fun V hV=>by
    obtain ⟨e0,e1,e2,_⟩:=HHI.out V (hbel.out.trans (hV.mono hbel.out.size))
    rw [← hpk.out,← han.out,← hav.out];exact ⟨⟨e0,e1,e2⟩,(hV.cell (by rw [zAD];exact hlt)).trans g1,(hV.cell (by show (az.add _).block<_;rw [zAD];exact hlt)).trans g2⟩
   have hbd:Below wr.heap.size wr wr.drew:=⟨rfl,rfl,rfl,Nat.le_refl _,fun _ _=>rfl⟩
   have HBV:Hid (Below w1.heap.size w1 wr.drew):=hbel.out.trans (hbd.mono hbel.out.size)
   clear hat hst hha g1 g2 hlt b1 b2 b5
   go_wp2_with fail;refine wp_region_held_drew (S:=fun V=>(V.cell? ⟨w.heap.size,0,none⟩=some (.int .i64 pk)∧V.cell? ⟨w.heap.size,2,none⟩=some (.string ⟨p.name.toArray⟩)∧V.cell? ⟨w.heap.size,3,none⟩=some (.string ⟨p.value.toArray⟩))∧V.cell? (az.add (i * 2))=some (.string ⟨an.toArray⟩)∧V.cell? ⟨(az.add (i * 2)).block,(az.add (i * 2)).off+1,none⟩=some (.string ⟨av.toArray⟩)) (by kernel_rfl) (HSV.out _ hbd) (fun hHeld=>?_)
   by_cases hnm:an=p.name
   ·subst hnm
    by_cases hk3:pk=3
    ·subst hk3
     have HF:Hid (r=true):=HTR.out (by simp)
     refine tkv 0 (h:=tkv 1 (h:=tkv 2 (h:=tkv 3 (h:=tkv 4 (h:=tkv 5 (h:=?_))))))
     refine tkv 6 (h:=tkv 7 (h:=tkv 8 (h:=tkv 9 (h:=tkv 10 (h:=tkv 11 (h:=?_))))))
     refine tkv 12 (h:=?_)
     refine tkn 13 (h:=tkn 14 (h:=tkn 15 (h:=tkn 16 (h:=tkn 17 (h:=tkn 18 (h:=?_))))))
     refine tkn 19 (h:=tkn 20 (h:=?_))
     refine tkv 21 (h:=tkv 22 (h:=?_))
     refine wpAnyH_done (by kernel_rfl) ?_ _
     clear hHeld
     go_wp2_with fail
     go_ret;exact ⟨by rw [HF.out];rfl,HB1.out.trans (HBV.out.mono HB1.out.size)⟩
    ·have bk:(pk == 3)=false:=by simpa using hk3
     by_cases hvl:av=p.value
     ·subst hvl
      have HF:Hid (r=true):=HTR.out (by simp)
      refine tkv 0 (h:=tkv 1 (h:=tkv 2 (h:=tkv 3 (h:=tkv 4 (h:=tkv 5 (h:=?_))))))
      refine tkv 6 (h:=tkv 7 (h:=tkv 8 (h:=tkv 9 (h:=tkv 10 (h:=tkv 11 (h:=?_))))))
      refine tkv 12 (h:=tkv 13 (h:=tkv 14 (h:=tkv 15 (h:=tkv 16 (h:=tkv 17 (h:=?_))))))
      refine tkv 18 (h:=tkv 19 (h:=tkv 20 (h:=tkv 21 (h:=tkv 22 (h:=?_)))))
      refine wpAnyH_done (by kernel_rfl) ?_ _
      clear hHeld
      go_wp2_with fail
      go_ret;exact ⟨by rw [HF.out];rfl,HB1.out.trans (HBV.out.mono HB1.out.size)⟩
     ·have bv:(av == p.value)=false:=by simpa using hvl
      have HNO:Hid ((z.x.attrs.take (i+1)).any (hasW p)=false):=by show _=_;rw [HST.out];simp [hk3,hvl]
      clear hk3 hvl;refine tkv 0 (h:=tkv 1 (h:=tkv 2 (h:=tkv 3 (h:=tkv 4 (h:=tkv 5 (h:=?_))))))
      refine tkv 6 (h:=tkv 7 (h:=tkv 8 (h:=tkv 9 (h:=tkv 10 (h:=tkv 11 (h:=?_))))))
      refine tkv 12 (h:=tkv 13 (h:=tkv 14 (h:=tkv 15 (h:=tkv 16 (h:=tkv 17 (h:=?_))))))
      refine tkv 18 (h:=tkv 19 (h:=tkv 20 (h:=tkv 21 (h:=tkv 22 (h:=?_)))))
      refine wpAnyH_done (by kernel_rfl) ?_ _
      clear hHeld
      go_wp2_with fail
      go_roundw
      case rel=>exact ⟨i+1,by go_num,by omega,HNO.out,HBV.out⟩
      case measure=>simp [intOf];omega
   ·have bn:(an == p.name)=false:=by simpa using hnm
    have HNO:Hid ((z.x.attrs.take (i+1)).any (hasW p)=false):=by show _=_;rw [HST.out];simp [hnm]
    clear hnm;refine tkv 0 (h:=tkv 1 (h:=tkv 2 (h:=tkv 3 (h:=tkv 4 (h:=tkv 5 (h:=?_))))))
    refine tkv 6 (h:=tkv 7 (h:=tkv 8 (h:=?_)))
    refine tkn 9 (h:=tkn 10 (h:=tkn 11 (h:=tkn 12 (h:=tkn 13 (h:=tkn 14 (h:=?_))))))
    refine tkn 15 (h:=tkn 16 (h:=tkn 17 (h:=tkn 18 (h:=tkn 19 (h:=tkn 20 (h:=?_))))))
    refine tkn 21 (h:=?_)
    refine tkv 22 (h:=?_)
    refine wpAnyH_done (by kernel_rfl) ?_ _
    clear hHeld
    go_wp2_with fail
    go_roundw
    case rel=>exact ⟨i+1,by go_num,by omega,HNO.out,HBV.out⟩
    case measure=>simp [intOf];omega
  ·have i1:¬ (i:Int)<(z.x.attrs.length:Int):=by omega
   have HF:Hid (r=false):=by
    show _=_
    rw [← HR.out];have:=hno.out
    rw [List.take_of_length_le (by omega)] at this
    exact this
   go_wp2_with fail
   go_ret;exact ⟨by rw [HF.out];rfl,HB1.out.trans (hbel.out.mono HB1.out.size)⟩
end
section
open Go.RowKit Go.Shelf
variable {X:Nat→Prop}
theorem zCw (L:List RowD) (p:PredD) (many:Nat):∀ (a:List Nat) (n:Nat) (b:List Nat),leftN L p many n (a++b)=leftN L p many n a++leftN L p many (n+a.length) b
 | [],n,b=>rfl
 | x :: a,n,b=>by
  rw [List.cons_append,leftN,leftN,zCw L p many a (n+1) b,List.length_cons,show n+1+a.length=n+(a.length+1) by omega]
  split <;> rfl
theorem zD5 (L:List RowD) (p:PredD) (many:Nat):∀ (n:Nat) (l:List Nat) (y:Nat),y∈leftN L p many n l→y∈l
 | _,[],_,h=>by simp [leftN] at h
 | n,x :: l,y,h=>by
  rw [leftN] at h
  split at h
  ·rcases List.mem_cons.1 h with rfl | h
   ·exact List.mem_cons_self
   ·exact List.mem_cons_of_mem _ (zD5 L p many _ l y h)
  ·exact List.mem_cons_of_mem _ (zD5 L p many _ l y h)
theorem zD4 (L:List RowD) (p:PredD) (many:Nat):∀ (n:Nat) (l:List Nat),(leftN L p many n l).length≤l.length
 | _,[]=>by simp [leftN]
 | n,x :: l=>by
  rw [leftN];have:=zD4 L p many (n+1) l
  split
  ·simp only [List.length_cons];omega
  ·simp only [List.length_cons];omega
theorem zE2 (L:List RowD):∀ (a b:List PredD) (l:List Nat),predsN L (a++b) l=predsN L b (predsN L a l)
 | [],_,_=>rfl
 | p :: a,b,l=>by rw [List.cons_append,predsN,predsN,zE2 L a b]
theorem zDM (L:List RowD):∀ (ps:List PredD) (l:List Nat),(predsN L ps l).length≤l.length
 | [],_=>Nat.le_refl _
 | p :: ps,l=>Nat.le_trans (zDM L ps _) (zD4 L p _ 0 l)
theorem zDN (L:List RowD):∀ (ps:List PredD) (l:List Nat) (y:Nat),y∈predsN L ps l→y∈l
 | [],_,_,h=>h
 | p :: ps,l,y,h=>zD5 L p _ 0 l y (zDN L ps _ y h)
theorem zFc (axis:Int) (N:Nat):(ordN axis N).length=N:=by unfold ordN;split <;> simp
theorem zHy (axis:Int) {N i:Nat} (hi:i<N):(ordN axis N)[i]? = some (if axis=5∨axis=7 then N-1-i else i):=by
 unfold ordN
 split
 ·rw [List.getElem?_reverse (by simpa using hi),List.length_range,List.getElem?_range (by omega)]
 ·rw [List.getElem?_range hi]
def keepN (L:List RowD) (s:StepD) (k n:Nat):Bool:=leadsN L s.axis k n && testR s (dL L n)
theorem zFn (L:List RowD) (s:StepD) (k:Nat):stepN L s k=predsN L s.preds ((ordN s.axis L.length).filter (keepN L s k)):=rfl
theorem zCs (a b:List Nat):ints (a++b)=ints a++ints b:=by simp [ints]
theorem zCt {l:List Nat} {j x:Nat} (h:l[j]? = some x):(ints l)[j]? = some (x:Int):=by unfold ints;rw [List.getElem?_map,h];rfl
theorem zKM (L:List RowD) (A:Option Addr) (c:Nat) (s:StepD) (As:Option Addr) (cs:Nat) (k:Nat) (w:World) (hL:RowsAt X w w.heap.size A L) (hs:SmallRows L) (hk:k<L.length) (hsk:1≤s.axis∧s.axis≤8) (hA:PredsAt w w.heap.size As s.preds) (hp5:s.preds.length≤5) :
  Calls Tryz.prog 37 #[.slice A L.length c,.agg #[.int .i64 s.axis,.int .i64 s.test,.string ⟨s.name.toArray⟩,.slice As s.preds.length cs],.int .i64 (k:Int)] w fun e w'=>∃ A' c',e=.returned (.slice A' (ints (stepN L s k)).length c')∧intRow w' (.slice A' (ints (stepN L s k)).length c') (ints (stepN L s k))∧Below w.heap.size w w' ∧
   ∀ b,(Value.slice A' (ints (stepN L s k)).length c').ownBlock=some b→w.heap.size≤b:=by
 have HS:=Lib.hid hs
 have HA:=Lib.hid hA
 have hs1:=hs.1
 have n1:(L.length:Int)≤1000000:=by omega
 have n0:(0:Int)≤(L.length:Int):=by omega
 have k0:(0:Int)≤(k:Int):=by omega
 have p0:(0:Int)≤(s.preds.length:Int):=by omega
 have p1:(s.preds.length:Int)≤5:=by omega
 obtain ⟨w1,hw1⟩:∃ w1,Hid (w.alloc (.cells #[.int .i64 s.axis,.int .i64 s.test,.string ⟨s.name.toArray⟩,.slice As s.preds.length cs] 45)=w1):=⟨_,rfl⟩
 have hb1:Below w.heap.size w w1:=by rw [← hw1.out];exact (Below.refl _ w).alloc (Nat.le_refl _) _
 have HX1:Hid (w1.heap[w.heap.size]? = some (.cells #[.int .i64 s.axis,.int .i64 s.test,.string ⟨s.name.toArray⟩,.slice As s.preds.length cs] 45 (0,0))):=by show _=_;rw [← hw1.out];exact heap_alloc_new w _
 have HB1:=Lib.hid hb1
 have HL1:=Lib.hid ((hL.below hb1).more hb1.size)
 obtain ⟨ad,hAd,_⟩:=HL1.out (by omega)
 subst hAd;have HHI:Hid (∀ V:World,Below w1.heap.size w1 V→V.cell? ⟨w.heap.size,0,none⟩=some (.int .i64 s.axis)∧V.cell? ⟨w.heap.size,1,none⟩=some (.int .i64 s.test)∧V.cell? ⟨w.heap.size,2,none⟩=some (.string ⟨s.name.toArray⟩)∧V.cell? ⟨w.heap.size,3,none⟩=some (.slice As s.preds.length cs)):=fun V hV=>by
  have hx:=(hV.block _ (Array.getElem?_eq_some_iff.1 HX1.out).1).trans HX1.out
  exact ⟨zAA hx 0 _ rfl,zAA hx 1 _ rfl,zAA hx 2 _ rfl,zAA hx 3 _ rfl⟩
 clear hL hs hA hb1
 go_enter Tryz.func37,Tryz.ntmps37
 go_upto_region 1 with (fail)
 rw [hw1.out]
 go_wp2_with fail
 go_loopw [7,8] (fun o i wr=>∃ (j:Nat) (A2:Option Addr) (c2:Nat) (l2:List Int),j≤L.length∧i=.int .i64 (j:Int)∧o=.slice A2 l2.length c2∧Hid (l2=ints (((ordN s.axis L.length).take j).filter (keepN L s k)))∧Hid (intRow wr (.slice A2 l2.length c2) l2) ∧
  Hid (∀ b,(Value.slice A2 l2.length c2).ownBlock=some b→w1.heap.size≤b)∧Hid (Below w1.heap.size w1 wr)) (fun _ i _=>L.length-(intOf i).toNat)
 case atStart=>exact ⟨0,none,0,[],Nat.zero_le _,rfl,rfl,rfl,⟨by simp,.inl ⟨rfl,rfl⟩⟩,fun b hb=>by simp [Value.ownBlock] at hb,Below.refl _ _⟩
 case round =>
  obtain ⟨j,A2,c2,l2,hj,rfl,rfl,hl2,hrow,hfr,hbel⟩:=hrel
  have j0:(0:Int)≤(j:Int):=by omega
  have hl2l:l2.length≤L.length:=by
   rw [hl2.out,zAs];have:=List.length_filter_le (keepN L s k) ((ordN s.axis L.length).take j)
   rw [List.length_take] at this;omega
  obtain ⟨e0,e1,e2,e3⟩:=HHI.out wr hbel.out
  by_cases hjl:j<L.length
  ·have j1:(j:Int)<(L.length:Int):=by omega
   obtain ⟨nn,hnn⟩:∃ nn,Hid ((ordN s.axis L.length)[j]? = some nn):=⟨_,zHy s.axis hjl⟩
   have hnv:=(zHy s.axis hjl).symm.trans hnn.out
   injection hnv with hnv
   have hnl:nn<L.length:=by rw [← hnv];split <;> omega
   obtain ⟨z,hz⟩:∃ z,Hid (L[nn]? = some z):=⟨L[nn],List.getElem?_eq_getElem _⟩
   have HLr:=Lib.hid (HL1.out.below hbel.out)
   obtain ⟨hzb,Az,cz,haz,hcz,q0,q1,q2,q3,q4,q5⟩:=HLr.out.row hz.out
   have hlt:ad.block<wr.heap.size:=Nat.lt_of_lt_of_le hzb hbel.out.size
   have hd:dL L nn=z.x.node:=by unfold dL;rw [hz.out]
   obtain ⟨B,hB⟩:∃ B,Hid (leadsN L s.axis k nn=B):=⟨_,rfl⟩
   obtain ⟨TT,hTT⟩:∃ T,Hid (testR s z.x.node=T):=⟨_,rfl⟩
   have HST:Hid (ints (((ordN s.axis L.length).take (j+1)).filter (keepN L s k))=l2++if B && TT then [(nn:Int)] else []):=by
    show _=_
    rw [List.take_add_one,hnn.out,List.filter_append,zCs,← hl2.out,Option.toList_some];unfold keepN;rw [List.filter_cons,hB.out,hd,hTT.out];cases B <;> cases TT <;> rfl
   have HSV:Hid (∀ V:World,Below wr.heap.size wr V→(V.cell? ⟨w.heap.size,0,none⟩=some (.int .i64 s.axis)∧V.cell? ⟨w.heap.size,1,none⟩=some (.int .i64 s.test)∧V.cell? ⟨w.heap.size,2,none⟩=some (.string ⟨s.name.toArray⟩)∧V.cell? ⟨w.heap.size,3,none⟩=some (.slice As s.preds.length cs)) ∧
     V.cell? ⟨(ad.add (nn * 6)).block,(ad.add (nn * 6)).off+1,none⟩=some (.int .i64 z.x.level)∧V.cell? ⟨(ad.add (nn * 6)).block,(ad.add (nn * 6)).off+2,none⟩=some (.int .i64 z.x.kind)∧V.cell? ⟨(ad.add (nn * 6)).block,(ad.add (nn * 6)).off+3,none⟩=some (.string ⟨z.x.name.toArray⟩) ∧
     V.cell? ⟨(ad.add (nn * 6)).block,(ad.add (nn * 6)).off+4,none⟩=some (.string ⟨z.x.text.toArray⟩)∧V.cell? ⟨(ad.add (nn * 6)).block,(ad.add (nn * 6)).off+5,none⟩=some (.slice Az z.x.attrs.length cz)):=fun V hV=>by
    have hc:∀ o,V.cell? ⟨(ad.add (nn * 6)).block,o,none⟩=wr.cell? ⟨(ad.add (nn * 6)).block,o,none⟩:=fun o=>hV.cell (by show (ad.add _).block<_;rw [zAD];exact hlt)
    exact ⟨HHI.out V (hbel.out.trans (hV.mono hbel.out.size)),(hc _).trans q1,(hc _).trans q2,(hc _).trans q3,(hc _).trans q4,(hc _).trans q5⟩
   have hbd:Below wr.heap.size wr wr.drew:=⟨rfl,rfl,rfl,Nat.le_refl _,fun _ _=>rfl⟩
   have nn0:(0:Int)≤(nn:Int):=by omega
   have nn1:(nn:Int)<(L.length:Int):=by omega
   clear q0 q1 q2 q3 q4 q5 e1 e2 e3 hzb haz hcz hlt hd;have hsplit:((s.axis == 5)=true∧(L.length:Int)-1-(j:Int)=(nn:Int))∨((s.axis == 5)=false∧(s.axis == 7)=true∧(L.length:Int)-1-(j:Int)=(nn:Int))∨((s.axis == 5)=false∧(s.axis == 7)=false∧(j:Int)=(nn:Int)):=by
    by_cases h5:s.axis=5
    ·rw [if_pos (.inl h5)] at hnv
     exact .inl ⟨by simpa using h5,by omega⟩
    ·by_cases h7:s.axis=7
     ·rw [if_pos (.inr h7)] at hnv
      exact .inr (.inl ⟨by simpa using h5,by simpa using h7,by omega⟩)
     ·rw [if_neg (by rintro (h | h);exact h5 h;exact h7 h)] at hnv
      exact .inr (.inr ⟨by simpa using h5,by simpa using h7,by omega⟩)
   clear hnv;rcases hsplit with ⟨b5,en⟩ | ⟨b5,b7,en⟩ | ⟨b5,b7,en⟩
   rotate_left 2
   ·obtain rfl:j=nn:=by omega
    clear en
    go_upto_region 8 with (fail)
    clear e0 b5 b7;refine wp_region_held_drew (S:=fun V=>(V.cell? ⟨w.heap.size,0,none⟩=some (.int .i64 s.axis)∧V.cell? ⟨w.heap.size,1,none⟩=some (.int .i64 s.test)∧V.cell? ⟨w.heap.size,2,none⟩=some (.string ⟨s.name.toArray⟩)∧V.cell? ⟨w.heap.size,3,none⟩=some (.slice As s.preds.length cs)) ∧
      V.cell? ⟨(ad.add (j * 6)).block,(ad.add (j * 6)).off+1,none⟩=some (.int .i64 z.x.level)∧V.cell? ⟨(ad.add (j * 6)).block,(ad.add (j * 6)).off+2,none⟩=some (.int .i64 z.x.kind)∧V.cell? ⟨(ad.add (j * 6)).block,(ad.add (j * 6)).off+3,none⟩=some (.string ⟨z.x.name.toArray⟩) ∧
      V.cell? ⟨(ad.add (j * 6)).block,(ad.add (j * 6)).off+4,none⟩=some (.string ⟨z.x.text.toArray⟩)∧V.cell? ⟨(ad.add (j * 6)).block,(ad.add (j * 6)).off+5,none⟩=some (.slice Az z.x.attrs.length cz)) (by kernel_rfl) (HSV.out _ hbd) (fun hHeld=>?_)
    refine tkv 0 (h:=tkv 1 (h:=tkv 2 (h:=tkv 3 (h:=tkv 4 (h:=?_)))))
    obtain ⟨v,hv⟩:∃ v,Hid (wr.drew=v):=⟨_,rfl⟩
    rw [hv.out] at hbd hHeld ⊢;have HBD:=Lib.hid hbd
    have HBV:=Lib.hid (hbel.out.trans (hbd.mono hbel.out.size))
    clear hbd;refine rdy 5 (fun K hK=>?_)
    go_simp
    refine (zDK L (some ad) c s.axis k j v ((HL1.out.below HBV.out).more HBV.out.size) HS.out hsk hk hnl B hB).mono ?_
    rintro e v2 ⟨rfl,hb2⟩;have HBD2:=Lib.hid (HBD.out.trans (hb2.mono HBD.out.size))
    clear hb2;refine hK.out _ _ (HSV.out _ HBD2.out) (fun hHeld=>?_)
    clear hK K
    try go_frame
    cases B with
    | false =>
     have HN:Hid (l2=ints (((ordN s.axis L.length).take (j+1)).filter (keepN L s k))):=by show _=_;rw [HST.out];simp
     have HBF:=Lib.hid (hbel.out.trans (HBD2.out.mono hbel.out.size))
     refine tkv 6 (h:=?_)
     refine tkn 7 (h:=tkn 8 (h:=tkn 9 (h:=tkn 10 (h:=tkn 11 (h:=tkn 12 (h:=?_))))))
     refine tkn 13 (h:=?_)
     refine tkv 14 (h:=?_)
     refine wpAnyH_done (by kernel_rfl) ?_ _
     clear hHeld
     go_wp2_with fail
     go_roundw
     case rel=>exact ⟨j+1,A2,c2,l2,by omega,by go_num,rfl,HN.out,zAC hrow.out fun b hb=>HBD2.out.block b (zAJ hrow.out hb),hfr.out,HBF.out⟩
     case measure=>simp [intOf];omega
    | true =>
     refine tkv 6 (h:=tkv 7 (h:=tkv 8 (h:=tkv 9 (h:=tkv 10 (h:=tkv 11 (h:=?_))))))
     refine tkv 12 (h:=?_)
     refine rdy 13 (fun K hK=>?_)
     go_simp
     refine (zEW s As s.preds.length cs z.x Az z.x.attrs.length cz v2).mono ?_
     rw [hTT.out];rintro e v3 ⟨rfl,hb3⟩;have HBD3:=Lib.hid (HBD2.out.trans (hb3.mono HBD2.out.size))
     have HBF:=Lib.hid (hbel.out.trans (HBD3.out.mono hbel.out.size))
     have HROW3:Hid (intRow v3 (.slice A2 l2.length c2) l2):=zAC hrow.out fun b hb=>HBD3.out.block b (zAJ hrow.out hb)
     clear hb3;refine hK.out _ _ (HSV.out _ HBD3.out) (fun hHeld=>?_)
     clear hK K
     try go_frame
     refine tkv 14 (h:=?_)
     refine wpAnyH_done (by kernel_rfl) ?_ _
     clear hHeld;cases TT with
     | false =>
      have HN:Hid (l2=ints (((ordN s.axis L.length).take (j+1)).filter (keepN L s k))):=by show _=_;rw [HST.out];simp
      go_wp2_with fail
      go_roundw
      case rel=>exact ⟨j+1,A2,c2,l2,by omega,by go_num,rfl,HN.out,HROW3.out,hfr.out,HBF.out⟩
      case measure=>simp [intOf];omega
     | true =>
      have HN:Hid (l2++[(j:Int)]=ints (((ordN s.axis L.length).take (j+1)).filter (keepN L s k))):=by show _=_;rw [HST.out];simp
      obtain ⟨pa,pn,pc,w9,hr9,hpn,hrow9,hg9,hf9⟩:=zAk HROW3.out (by omega) (j:Int)
      subst hpn;have HB9:Hid (Below w1.heap.size w1 w9):=⟨hg9.os.trans HBF.out.os,hg9.tape.trans HBF.out.tape,hg9.output.trans HBF.out.output,Nat.le_trans HBF.out.size hg9.size,fun b hb=>(hg9.block b (Nat.lt_of_lt_of_le hb HBF.out.size) (fun h'=>by have:=hfr.out b h'.symm;omega)).trans (HBF.out.block b hb)⟩
      have hfr9:∀ b,(Value.slice pa (l2.length+1) pc).ownBlock=some b→w1.heap.size≤b:=fun b hb=>by
       rcases hf9 b hb with h' | h'
       ·exact hfr.out b h'
       ·have:=HBF.out.size;omega
      have HR9:=Lib.hid hrow9
      have HF9:=Lib.hid hfr9
      clear hrow9 hg9 hf9 hfr9
      go_wp2_with (at_builtin;refine zAK _ rfl _ _ 32 rfl (.slice A2 l2.length c2) (.slice (some ⟨v3.heap.size,0,none⟩) 1 1) (by simp [Act.eval]) (by simp [Act.eval]) hr9 ?_)
      go_roundw
      case rel=>exact ⟨j+1,pa,pc,l2++[(j:Int)],by omega,by go_num,by simp,HN.out,by show intRow _ _ _;simpa using HR9.out,by show ∀ b,_;simpa using HF9.out,HB9.out⟩
      case measure=>simp [intOf];omega
   all_goals
    have EN:=Lib.hid en
    clear en
    go_upto_region 8 with (fail)
    rw [EN.out];clear e0;refine wp_region_held_drew (S:=fun V=>(V.cell? ⟨w.heap.size,0,none⟩=some (.int .i64 s.axis)∧V.cell? ⟨w.heap.size,1,none⟩=some (.int .i64 s.test)∧V.cell? ⟨w.heap.size,2,none⟩=some (.string ⟨s.name.toArray⟩)∧V.cell? ⟨w.heap.size,3,none⟩=some (.slice As s.preds.length cs)) ∧
      V.cell? ⟨(ad.add (nn * 6)).block,(ad.add (nn * 6)).off+1,none⟩=some (.int .i64 z.x.level)∧V.cell? ⟨(ad.add (nn * 6)).block,(ad.add (nn * 6)).off+2,none⟩=some (.int .i64 z.x.kind)∧V.cell? ⟨(ad.add (nn * 6)).block,(ad.add (nn * 6)).off+3,none⟩=some (.string ⟨z.x.name.toArray⟩) ∧
      V.cell? ⟨(ad.add (nn * 6)).block,(ad.add (nn * 6)).off+4,none⟩=some (.string ⟨z.x.text.toArray⟩)∧V.cell? ⟨(ad.add (nn * 6)).block,(ad.add (nn * 6)).off+5,none⟩=some (.slice Az z.x.attrs.length cz)) (by kernel_rfl) (HSV.out _ hbd) (fun hHeld=>?_)
    refine tkv 0 (h:=tkv 1 (h:=tkv 2 (h:=tkv 3 (h:=tkv 4 (h:=?_)))))
    obtain ⟨v,hv⟩:∃ v,Hid (wr.drew=v):=⟨_,rfl⟩
    rw [hv.out] at hbd hHeld ⊢;have HBD:=Lib.hid hbd
    have HBV:=Lib.hid (hbel.out.trans (hbd.mono hbel.out.size))
    clear hbd;refine rdy 5 (fun K hK=>?_)
    go_simp
    refine (zDK L (some ad) c s.axis k nn v ((HL1.out.below HBV.out).more HBV.out.size) HS.out hsk hk hnl B hB).mono ?_
    rintro e v2 ⟨rfl,hb2⟩;have HBD2:=Lib.hid (HBD.out.trans (hb2.mono HBD.out.size))
    clear hb2;refine hK.out _ _ (HSV.out _ HBD2.out) (fun hHeld=>?_)
    clear hK K
    try go_frame
    cases B with
    | false =>
     have HN:Hid (l2=ints (((ordN s.axis L.length).take (j+1)).filter (keepN L s k))):=by show _=_;rw [HST.out];simp
     have HBF:=Lib.hid (hbel.out.trans (HBD2.out.mono hbel.out.size))
     refine tkv 6 (h:=?_)
     refine tkn 7 (h:=tkn 8 (h:=tkn 9 (h:=tkn 10 (h:=tkn 11 (h:=tkn 12 (h:=?_))))))
     refine tkn 13 (h:=?_)
     refine tkv 14 (h:=?_)
     refine wpAnyH_done (by kernel_rfl) ?_ _
     clear hHeld
     go_wp2_with fail
     go_roundw
     case rel=>exact ⟨j+1,A2,c2,l2,by omega,by go_num,rfl,HN.out,zAC hrow.out fun b hb=>HBD2.out.block b (zAJ hrow.out hb),hfr.out,HBF.out⟩
     case measure=>simp [intOf];omega
    | true =>
     refine tkv 6 (h:=tkv 7 (h:=tkv 8 (h:=tkv 9 (h:=tkv 10 (h:=tkv 11 (h:=?_))))))
     refine tkv 12 (h:=?_)
     refine rdy 13 (fun K hK=>?_)
     go_simp
     refine (zEW s As s.preds.length cs z.x Az z.x.attrs.length cz v2).mono ?_
     rw [hTT.out];rintro e v3 ⟨rfl,hb3⟩;have HBD3:=Lib.hid (HBD2.out.trans (hb3.mono HBD2.out.size))
     have HBF:=Lib.hid (hbel.out.trans (HBD3.out.mono hbel.out.size))
     have HROW3:Hid (intRow v3 (.slice A2 l2.length c2) l2):=zAC hrow.out fun b hb=>HBD3.out.block b (zAJ hrow.out hb)
     clear hb3;refine hK.out _ _ (HSV.out _ HBD3.out) (fun hHeld=>?_)
     clear hK K
     try go_frame
     refine tkv 14 (h:=?_)
     refine wpAnyH_done (by kernel_rfl) ?_ _
     clear hHeld;cases TT with
     | false =>
      have HN:Hid (l2=ints (((ordN s.axis L.length).take (j+1)).filter (keepN L s k))):=by show _=_;rw [HST.out];simp
      go_wp2_with fail
      go_roundw
      case rel=>exact ⟨j+1,A2,c2,l2,by omega,by go_num,rfl,HN.out,HROW3.out,hfr.out,HBF.out⟩
      case measure=>simp [intOf];omega
     | true =>
      have HN:Hid (l2++[(nn:Int)]=ints (((ordN s.axis L.length).take (j+1)).filter (keepN L s k))):=by show _=_;rw [HST.out];simp
      obtain ⟨pa,pn,pc,w9,hr9,hpn,hrow9,hg9,hf9⟩:=zAk HROW3.out (by omega) (nn:Int)
      subst hpn;have HB9:Hid (Below w1.heap.size w1 w9):=⟨hg9.os.trans HBF.out.os,hg9.tape.trans HBF.out.tape,hg9.output.trans HBF.out.output,Nat.le_trans HBF.out.size hg9.size,fun b hb=>(hg9.block b (Nat.lt_of_lt_of_le hb HBF.out.size) (fun h'=>by have:=hfr.out b h'.symm;omega)).trans (HBF.out.block b hb)⟩
      have hfr9:∀ b,(Value.slice pa (l2.length+1) pc).ownBlock=some b→w1.heap.size≤b:=fun b hb=>by
       rcases hf9 b hb with h' | h'
       ·exact hfr.out b h'
       ·have:=HBF.out.size;omega
      have HR9:=Lib.hid hrow9
      have HF9:=Lib.hid hfr9
      clear hrow9 hg9 hf9 hfr9
      go_wp2_with (at_builtin;refine zAK _ rfl _ _ 32 rfl (.slice A2 l2.length c2) (.slice (some ⟨v3.heap.size,0,none⟩) 1 1) (by simp [Act.eval]) (by simp [Act.eval]) hr9 ?_)
      go_roundw
      case rel=>exact ⟨j+1,pa,pc,l2++[(nn:Int)],by omega,by go_num,by simp,HN.out,by show intRow _ _ _;simpa using HR9.out,by show ∀ b,_;simpa using HF9.out,HB9.out⟩
      case measure=>simp [intOf];omega
  ·have hjm:j=L.length:=by omega
   subst hjm;obtain ⟨l0,hl0⟩:∃ l0,Hid ((ordN s.axis L.length).filter (keepN L s k)=l0):=⟨_,rfl⟩
   have hl2':=hl2.out
   rw [List.take_of_length_le (by rw [zFc];exact Nat.le_refl _),hl0.out] at hl2'
   have hlm:∀ y∈l0,y<L.length:=fun y hy=>by
    rw [← hl0.out] at hy;have:=(List.mem_filter.1 hy).1
    unfold ordN at this
    split at this
    ·exact List.mem_range.1 (List.mem_reverse.1 this)
    ·exact List.mem_range.1 this
   have HLM:=Lib.hid hlm
   have hll:l0.length≤L.length:=by
    rw [← hl0.out];have:=List.length_filter_le (keepN L s k) (ordN s.axis L.length)
    rw [zFc] at this;exact this
   have HFIN:Hid (stepN L s k=predsN L s.preds l0):=by show _=_;rw [zFn,hl0.out]
   obtain ⟨W0,hW0⟩:∃ W0,W0=wr:=⟨_,rfl⟩
   subst hW0;have HB0:=Lib.hid hbel.out
   have HROW0:Hid (intRow W0 (.slice A2 (ints l0).length c2) (ints l0)):=by rw [← hl2'];exact hrow.out
   have HFR0:Hid (∀ b,(Value.slice A2 (ints l0).length c2).ownBlock=some b→w1.heap.size≤b):=by rw [← hl2'];exact hfr.out
   subst hl2';clear hl2 hrow hfr hbel hlm e0 e1 e2 e3
   go_wp2_with fail
   go_loopw [7,10] (fun o i wr=>∃ (q:Nat) (A3:Option Addr) (c3:Nat) (l3:List Nat),q≤s.preds.length∧i=.int .i64 (q:Int)∧o=.slice A3 (ints l3).length c3∧Hid (l3=predsN L (s.preds.take q) l0)∧Hid (intRow wr (.slice A3 (ints l3).length c3) (ints l3)) ∧
    Hid (∀ b,(Value.slice A3 (ints l3).length c3).ownBlock=some b→w1.heap.size≤b)∧Hid (Below w1.heap.size w1 wr)) (fun _ i _=>s.preds.length-(intOf i).toNat)
   case atStart=>exact ⟨0,A2,c2,l0,Nat.zero_le _,rfl,rfl,rfl,HROW0.out,HFR0.out,HB0.out⟩
   case round =>
    obtain ⟨q,A3,c3,l3,hq,rfl,rfl,hl3,hrow3,hfr3,hb3⟩:=hrel
    have q0:(0:Int)≤(q:Int):=by omega
    obtain ⟨e0,e1,e2,e3⟩:=HHI.out wr hb3.out
    clear e0 e1 e2;by_cases hql:q<s.preds.length
    ·have q1:(q:Int)<(s.preds.length:Int):=by omega
     obtain ⟨p,hp⟩:∃ p,Hid (s.preds[q]? = some p):=⟨s.preds[q],List.getElem?_eq_getElem _⟩
     have hll3:l3.length≤1000000:=by
      rw [hl3.out];have:=zDM L (s.preds.take q) l0
      omega
     have HLL3:=Lib.hid hll3
     have hil:(ints l3).length=l3.length:=zAs l3
     have HLM3:Hid (∀ y∈l3,y<L.length):=fun y hy=>HLM.out y (zDN L _ _ y (by rw [← hl3.out];exact hy))
     have HNX:Hid (predsN L (s.preds.take (q+1)) l0=leftN L p l3.length 0 l3):=by
      show _=_
      rw [List.take_add_one,hp.out,Option.toList_some,zE2,← hl3.out]
      rfl
     have HROW3:=Lib.hid hrow3.out
     have HBW3:=Lib.hid hb3.out
     have z0:(0:Int)≤(l3.length:Int):=by omega
     have z1:(l3.length:Int)≤1000000:=by omega
     obtain ⟨W3,hW3⟩:∃ W3,W3=wr:=⟨_,rfl⟩
     subst hW3;obtain ⟨n3,hn3⟩:∃ n3,Hid ((ints l3).length=n3):=⟨_,rfl⟩
     have hn3':n3=l3.length:=by rw [← hn3.out];exact hil
     have HN3:=Lib.hid hn3'
     have y0:(0:Int)≤(n3:Int):=by omega
     have y1:(n3:Int)≤1000000:=by omega
     rw [hn3.out];clear hrow3 hfr3 hb3 hil hn3'
     go_wp2_with fail;clear e3
     go_loopw [11,12] (fun o i wr=>∃ (m:Nat) (A4:Option Addr) (c4:Nat) (l4:List Nat),m≤n3∧i=.int .i64 (m:Int)∧o=.slice A4 (ints l4).length c4∧Hid (l4=leftN L p l3.length 0 (l3.take m))∧Hid (intRow wr (.slice A4 (ints l4).length c4) (ints l4)) ∧
      Hid (∀ b,(Value.slice A4 (ints l4).length c4).ownBlock=some b→W3.heap.size≤b)∧Hid (Below W3.heap.size W3 wr)) (fun _ i _=>n3-(intOf i).toNat)
     case atStart=>exact ⟨0,none,0,[],Nat.zero_le _,rfl,rfl,rfl,⟨by simp [ints],.inl ⟨rfl,rfl⟩⟩,fun b hb=>by simp [Value.ownBlock] at hb,Below.refl _ _⟩
     case round =>
      obtain ⟨m,A4,c4,l4,hm,rfl,rfl,hl4,hrow4,hfr4,hb4⟩:=hrel
      have m0:(0:Int)≤(m:Int):=by omega
      have hl4l:(ints l4).length≤1000000:=by
       rw [zAs,hl4.out];have:=zD4 L p l3.length 0 (l3.take m)
       rw [List.length_take] at this;have:=HLL3.out
       omega
      by_cases hml:m<n3
      ·have m1:(m:Int)<(n3:Int):=by omega
       obtain ⟨x,hx⟩:∃ x,Hid (l3[m]? = some x):=⟨_,List.getElem?_eq_getElem (by rw [← HN3.out];exact hml)⟩
       have hxl:=HLM3.out x (List.mem_of_getElem? hx.out)
       have HXL:=Lib.hid hxl
       obtain ⟨g,hgA⟩:∃ g,A3=some ⟨g,0,none⟩:=by
        rcases HROW3.out.2 with ⟨_,h⟩ | ⟨g,cap,cur,h,_⟩
        ·rw [hn3.out] at h;omega
        ·injection h with h _ _;exact ⟨g,h⟩
       subst hgA;obtain ⟨KB,hKB⟩:∃ K,Hid (keptN L p x m n3=K):=⟨_,rfl⟩
       have HSN:Hid (ints (leftN L p l3.length 0 (l3.take (m+1)))=ints l4++if KB then [(x:Int)] else []):=by
        show _=_
        rw [List.take_add_one,hx.out,zCw,zCs,← hl4.out,List.length_take,Nat.zero_add,Nat.min_eq_left (by have:=HN3.out;omega),Option.toList_some,leftN,← HN3.out,hKB.out]
        cases KB <;> rfl
       obtain ⟨pd,hpd,hpb,hpc⟩:=HA.out (by omega)
       obtain ⟨p0',p1',p2',p3'⟩:=hpc q p hp.out
       have HSV:Hid (∀ V:World,Below wr.heap.size wr V→V.cell? ⟨w.heap.size,3,none⟩=some (.slice As s.preds.length cs)∧(V.cell? (pd.add (q * 4))=some (.int .i64 p.kind)∧V.cell? ⟨(pd.add (q * 4)).block,(pd.add (q * 4)).off+1,none⟩=some (.int .i64 p.num)∧V.cell? ⟨(pd.add (q * 4)).block,(pd.add (q * 4)).off+2,none⟩=some (.string ⟨p.name.toArray⟩)∧V.cell? ⟨(pd.add (q * 4)).block,(pd.add (q * 4)).off+3,none⟩=some (.string ⟨p.value.toArray⟩))∧V.cell? ⟨g,m,none⟩=some (.int .i64 (x:Int))):=fun V hV=>by
        have h3:Below W3.heap.size W3 V:=hb4.out.trans (hV.mono hb4.out.size)
        have h1:Below w1.heap.size w1 V:=HBW3.out.trans (h3.mono HBW3.out.size)
        have h0:Below w.heap.size w V:=HB1.out.trans (h1.mono HB1.out.size)
        have hc:∀ o,V.cell? ⟨(pd.add (q * 4)).block,o,none⟩=w.cell? ⟨(pd.add (q * 4)).block,o,none⟩:=fun o=>h0.cell (by show (pd.add _).block<_;rw [zAD];exact hpb)
        have hr:intRow V (.slice (some ⟨g,0,none⟩) (ints l3).length c3) (ints l3):=zAC HROW3.out fun b hb=>h3.block b (zAJ HROW3.out hb)
        exact ⟨(HHI.out V h1).2.2.2,⟨(h0.cell (by rw [zAD];exact hpb)).trans p0',(hc _).trans p1',(hc _).trans p2',(hc _).trans p3'⟩,zAd hr m (.int .i64 (x:Int)) (by rw [List.getElem?_map,zCt hx.out];rfl)⟩
       subst hpd;have hbd:Below wr.heap.size wr wr.drew:=⟨rfl,rfl,rfl,Nat.le_refl _,fun _ _=>rfl⟩
       have xx0:(0:Int)≤(x:Int):=by omega
       clear hpc p0' p1' p2' p3' hxl hpb
       go_wp2_with fail;refine wp_region_held_drew (S:=fun V=>V.cell? ⟨w.heap.size,3,none⟩=some (.slice (some pd) s.preds.length cs)∧(V.cell? (pd.add (q * 4))=some (.int .i64 p.kind)∧V.cell? ⟨(pd.add (q * 4)).block,(pd.add (q * 4)).off+1,none⟩=some (.int .i64 p.num)∧V.cell? ⟨(pd.add (q * 4)).block,(pd.add (q * 4)).off+2,none⟩=some (.string ⟨p.name.toArray⟩)∧V.cell? ⟨(pd.add (q * 4)).block,(pd.add (q * 4)).off+3,none⟩=some (.string ⟨p.value.toArray⟩))∧V.cell? ⟨g,m,none⟩=some (.int .i64 (x:Int))) (by kernel_rfl) (HSV.out _ hbd) (fun hHeld=>?_)
       refine tkv 0 (h:=tkv 1 (h:=tkv 2 (h:=tkv 3 (h:=tkv 4 (h:=tkv 5 (h:=?_))))))
       refine tkv 6 (h:=tkv 7 (h:=tkv 8 (h:=tkv 9 (h:=tkv 10 (h:=tkv 11 (h:=?_))))))
       refine tkv 12 (h:=tkv 13 (h:=?_))
       obtain ⟨v,hv⟩:∃ v,Hid (wr.drew=v):=⟨_,rfl⟩
       rw [hv.out] at hbd hHeld ⊢;have HBD:=Lib.hid hbd
       have HBV:Hid (Below w1.heap.size w1 v):=HBW3.out.trans ((hb4.out.trans (hbd.mono hb4.out.size)).mono HBW3.out.size)
       clear hbd;refine rdy 14 (fun K hK=>?_)
       go_simp
       refine (zJh L (some ad) c p x m n3 v ((HL1.out.below HBV.out).more HBV.out.size) HS.out HXL.out (by omega) (by omega) KB hKB).mono ?_
       rintro e v2 ⟨rfl,hb2⟩;have HBD2:=Lib.hid (HBD.out.trans (hb2.mono HBD.out.size))
       clear hb2;refine hK.out _ _ (HSV.out _ HBD2.out) (fun hHeld=>?_)
       clear hK K
       try go_frame
       refine wpAnyH_done (by kernel_rfl) ?_ _
       clear hHeld;have HB4:=Lib.hid (hb4.out.trans (HBD2.out.mono hb4.out.size))
       have HR4:Hid (intRow v2 (.slice A4 (ints l4).length c4) (ints l4)):=zAC hrow4.out fun b hb=>HBD2.out.block b (zAJ hrow4.out hb)
       have hcg:v2.cell? ⟨g,m,none⟩=some (.int .i64 (x:Int)):=(HSV.out v2 HBD2.out).2.2
       cases KB with
       | false =>
        have HN:Hid (l4=leftN L p l3.length 0 (l3.take (m+1))):=by
         show _=_
         have hx':=hx.out
         rw [List.take_add_one,hx',zCw,← hl4.out,List.length_take,Nat.zero_add,Nat.min_eq_left (by have:=HN3.out;omega),Option.toList_some,leftN,← HN3.out,hKB.out]
         simp [leftN]
        go_wp2_with fail
        go_roundw
        case rel=>exact ⟨m+1,A4,c4,l4,by omega,by go_num,rfl,HN.out,HR4.out,hfr4.out,HB4.out⟩
        case measure=>simp [intOf];omega
       | true =>
        have HN:Hid (l4++[x]=leftN L p l3.length 0 (l3.take (m+1))):=by
         show _=_
         have hx':=hx.out
         rw [List.take_add_one,hx',zCw,← hl4.out,List.length_take,Nat.zero_add,Nat.min_eq_left (by have:=HN3.out;omega),Option.toList_some,leftN,← HN3.out,hKB.out]
         simp [leftN]
        obtain ⟨pa,pn,pc,w9,hr9,hpn,hrow9,hg9,hf9⟩:=zAk HR4.out (by omega) (x:Int)
        have HB9:Hid (Below W3.heap.size W3 w9):=⟨hg9.os.trans HB4.out.os,hg9.tape.trans HB4.out.tape,hg9.output.trans HB4.out.output,Nat.le_trans HB4.out.size hg9.size,fun b hb=>(hg9.block b (Nat.lt_of_lt_of_le hb HB4.out.size) (fun h'=>by have:=hfr4.out b h'.symm;omega)).trans (HB4.out.block b hb)⟩
        have hia:ints l4++[(x:Int)]=ints (l4++[x]):=by rw [zCs];rfl
        have hpn':pn=(ints (l4++[x])).length:=by rw [hpn,zAs,zAs,List.length_append];rfl
        rw [hia] at hrow9;subst hpn';have hfr9:∀ b,(Value.slice pa (ints (l4++[x])).length pc).ownBlock=some b→W3.heap.size≤b:=fun b hb=>by
         rcases hf9 b hb with h' | h'
         ·exact hfr4.out b h'
         ·have:=HB4.out.size;omega
        have HR9:=Lib.hid hrow9
        have HF9:=Lib.hid hfr9
        clear hrow9 hg9 hf9 hfr9 hpn hia
        go_wp2_with (at_builtin;refine zAK _ rfl _ _ 32 rfl (.slice A4 (ints l4).length c4) (.slice (some ⟨v2.heap.size,0,none⟩) 1 1) (by simp [Act.eval]) (by simp [Act.eval]) hr9 ?_)
        go_roundw
        case rel=>exact ⟨m+1,pa,pc,l4++[x],by omega,by go_num,rfl,HN.out,HR9.out,HF9.out,HB9.out⟩
        case measure=>simp [intOf];omega
      ·have hmm:m=n3:=by omega
       subst hmm;have HF:Hid (l4=predsN L (s.preds.take (q+1)) l0):=by
        show _=_
        rw [HNX.out,hl4.out,List.take_of_length_le (by have:=HN3.out;omega)]
       have HBF:Hid (Below w1.heap.size w1 wr):=HBW3.out.trans (hb4.out.mono HBW3.out.size)
       have HFF:Hid (∀ b,(Value.slice A4 (ints l4).length c4).ownBlock=some b→w1.heap.size≤b):=fun b hb=>Nat.le_trans HBW3.out.size (hfr4.out b hb)
       go_wp2_with fail
       go_roundw
       case rel=>exact ⟨q+1,A4,c4,l4,by omega,by go_num,rfl,HF.out,hrow4.out,HFF.out,HBF.out⟩
       case measure=>simp [intOf];omega
    ·have hqm:q=s.preds.length:=by omega
     subst hqm;have HF:Hid (stepN L s k=l3):=by show _=_;rw [HFIN.out,hl3.out,List.take_length]
     go_wp2_with fail
     go_ret;rw [HF.out];exact ⟨A3,c3,rfl,hrow3.out,HB1.out.trans (hb3.out.mono HB1.out.size),fun b hb=>Nat.le_trans HB1.out.size (hfr3.out b hb)⟩
end
end Go.Proofs.YtcombcoilpmnkaaGreat

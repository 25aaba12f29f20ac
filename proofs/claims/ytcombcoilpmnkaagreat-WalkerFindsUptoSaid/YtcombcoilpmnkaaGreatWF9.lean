/-
  Texts of this claim, joined (by a program of the claim's author): GRTr, GRDe, ROne, RCheck, GRLo, GROr, GCntP, GShpP, GRPre, WGrn, PrintPlain, DocPlain, FitPlain, IdemPlain.
-/
import Derived.Test.YtcombcoilpmnkaaGreatWF1
import Derived.Test.YtcombcoilpmnkaaGreatWF8
import Derived.Test.YtcombcoilpmnkaaGreatWF7
import Derived.Test.YtcombcoilpmnkaaGreatWF6
import Derived.Test.YtcombcoilpmnkaaGreatWF4
namespace Go.Proofs.YtcombcoilpmnkaaGreat
set_option maxRecDepth 100000
set_option maxHeartbeats 16000000
section
open Go.RowKit Go.Shelf
variable {X:Nat→Prop}
theorem RowsAt.setRow {w:World} {B:Nat} {A:Option Addr} {L:List RowD} (h:RowsAt X w B A L) {g:Nat} {old:Array Value} {t:TypeId} {fr:Nat × Nat} (hg:w.heap[g]? = some (.cells old t fr)) (hno:∀ (i:Nat) (s:ByteArray),old[i]? ≠ some (.string s)) (cs:Array Value):RowsAt X (w.setRow g cs) B A L:=fun hl=>by
 obtain ⟨ad,rfl,hb,hr⟩:=h hl
 have hblk:∀ (p:Addr) (s:ByteArray),w.cell? p=some (.string s)→p.block≠g:=fun p s hp e=>by
  unfold World.cell? at hp;rw [e,hg] at hp;have hp':p.spot=none∧old[p.off]? = some (Value.string s):=by simpa using hp
  exact hno _ _ hp'.2
 have hkeep:∀ p:Addr,p.block≠g→(w.setRow g cs).cell? p=w.cell? p:=fun p hp=>by
  unfold World.cell?;rw [setRow_other _ _ _ _ hp]
 have hne:ad.block≠g:=by
  obtain ⟨r,hr0⟩:∃ r,L[0]? = some r:=⟨L[0],List.getElem?_eq_getElem hl⟩
  obtain ⟨A',c',_,_,hc⟩:=hr 0 r hr0
  unfold RowCells at hc;have:=hblk _ _ hc.2.2.2.1
  simpa [zAD] using this
 refine ⟨ad,rfl,hb,fun k r hk=>?_⟩
 obtain ⟨A',c',⟨ha,hax⟩,hcc,hc⟩:=hr k r hk
 have hne':(ad.add (k * 6)).block≠g:=by rw [zAD];exact hne
 refine ⟨A',c',⟨fun hp=>?_,hax⟩,hcc,?_⟩
 ·obtain ⟨ad2,rfl,hb2,hq⟩:=ha hp
  refine ⟨ad2,rfl,hb2,fun j a hj=>?_⟩
  obtain ⟨q1,q2⟩:=hq j a hj
  exact ⟨by rw [hkeep _ (hblk _ _ q1)];exact q1,by rw [hkeep _ (hblk _ _ q2)];exact q2⟩
 ·unfold RowCells at hc ⊢
  obtain ⟨e0,e1,e2,e3,e4,e5⟩:=hc
  exact ⟨(hkeep _ hne').trans e0,(hkeep _ (by exact hne')).trans e1,(hkeep _ (by exact hne')).trans e2,(hkeep _ (by exact hne')).trans e3,(hkeep _ (by exact hne')).trans e4,(hkeep _ (by exact hne')).trans e5⟩
theorem zLd:∀ (i:Nat) (s:ByteArray),zeroT[i]? ≠ some (.string s):=fun i s=>by
 match i with
 | 0=>simp [zeroT]
 | 1=>simp [zeroT]
 | i+2=>simp [zeroT]
theorem zLZ (A:Option Addr) (n c:Nat) (next:Int):∀ (i:Nat) (s:ByteArray),(treeV A n c next)[i]? ≠ some (.string s):=fun i s=>by
 match i with
 | 0=>simp [treeV]
 | 1=>simp [treeV]
 | i+2=>simp [treeV]
def TreeR (X:Nat→Prop) (w:World) (A:Option Addr) (c:Nat) (L:List RowD):Prop:=RowsAt X w w.heap.size A L∧SliceOk A L.length c
def TPost (X:Nat→Prop) (w:World) (L:List RowD) (next e:Int) (er:Ending) (w':World):Prop:=∃ A c,er=.returned (.tuple #[.agg (treeV A L.length c next),.int .i64 e])∧TreeR X w' A c L∧Below w.heap.size w w'
def TPost3 (X:Nat→Prop) (w:World) (a:Ans) (er:Ending) (w':World):Prop:=∃ A c,er=.returned (.tuple #[.agg (treeV A a.1.length c a.2.1),.int .i64 a.2.2.1,.int .i64 a.2.2.2])∧TreeR X w' A c a.1∧Below w.heap.size w w'
theorem TreeR.laid {w w2:World} {A:Option Addr} {c:Nat} {L:List RowD} (h:TreeR X w2 A c L) (hb:Below w.heap.size w w2) {g:Nat} (hg:w.heap.size≤g) (hz:w2.heap[g]? = some (.cells zeroT 27 (0,0))) (cs:Array Value):TreeR X (w2.setRow g cs) A c L∧Below w.heap.size w (w2.setRow g cs):=by
 refine ⟨⟨?_,h.2⟩,⟨hb.os,hb.tape,hb.output,by rw [setRow_size];exact hb.size,fun b hb'=>(setRow_other _ _ _ _ (by omega)).trans (hb.block b hb')⟩⟩
 rw [setRow_size];exact h.1.setRow hz zLd cs
theorem TreeR.of {w w':World} {A:Option Addr} {c:Nat} {S:List SlotR} (h:RowsOwn w' w.heap.size A c S) (ha:AttrsOf X w w.heap.size S) (hb:Below w.heap.size w w') {L:List RowD} (hL:S.map (·.1)=L) (hX:∀ b,w.heap.size≤b→X b):TreeR X w' A c L:=by
 subst hL;refine ⟨RowsOwn.at h ((ha.below hb).more hb.size) hX,?_⟩
 rw [List.length_map];exact h.ok
theorem TreeR.below {w w':World} {A:Option Addr} {c:Nat} {L:List RowD} (h:TreeR X w A c L) (hb:Below w.heap.size w w'):TreeR X w' A c L:=⟨(h.1.below hb).more hb.size,h.2⟩
end
section
open Go.RowKit Go.Shelf
variable {X:Nat→Prop}
end
section
open Go.RowKit
theorem zJz (l:List ItemD) (ad:Addr) (c:Nat) (x:ItemD) (w:World) (hA:ItemsAt w w.heap.size (some ad) l) (hx:l[0]? = some x) (_hlen:l.length≤1000000000) (hs:SmallItem x) (V:Int) (hV:Hid (oneE none 0 x=V)) :
  Calls Tryz.prog 75 #[.slice (some ad) l.length c,.int .i64 0] w (Ret w (.int .i64 V)):=by
 have hl:0<l.length:=(List.getElem?_eq_some_iff.1 hx).1
 obtain ⟨hbl,A',c',hat,_,h0,h1,h2,h3,h4⟩:=hA.item hx
 unfold strV at h2 h3;have ez:ad.add (0 * 5)=ad:=by unfold Addr.add;simp
 rw [ez] at h0 h1 h2 h3 h4;have HAT:=Lib.hid hat
 have hV':=hV.out
 clear hA hx ez hat hV;by_cases c1:x.level≠0∨x.kind≠1
 ·have hv:Hid (69=V):=by
   show _=_
   rw [← hV'];unfold oneE;have:placeE none 0 x=69:=by unfold placeE;exact if_pos c1
   rw [this];rfl
  clear hV';by_cases c2:x.level=0
  ·have d1:(x.level != 0)=false:=by simp [c2]
   have d2:(x.kind != 1)=true:=by simp;omega
   clear c1 c2
   go_enter Tryz.func75,Tryz.ntmps75
   go_wp2_with fail
   go_ret;exact ⟨by rw [← hv.out];rfl,(Below.refl _ w).alloc (Nat.le_refl _) _⟩
  ·have d1:(x.level != 0)=true:=by simp [c2]
   clear c1 c2
   go_enter Tryz.func75,Tryz.ntmps75
   go_wp2_with fail
   go_ret;exact ⟨by rw [← hv.out];rfl,(Below.refl _ w).alloc (Nat.le_refl _) _⟩
 ·have hl0:x.level=0:=by omega
  have hk1:x.kind=1:=by omega
  have hv:Hid (partsE x=V):=by
   show _=_
   rw [← hV'];unfold oneE;have:placeE none 0 x=0:=by unfold placeE;exact if_neg c1
   rw [this];rfl
  have d1:(x.level != 0)=false:=by simp [hl0]
  have d2:(x.kind != 1)=false:=by simp [hk1]
  have l0:x.level≤0:=by omega
  clear hV' c1 hk1 hl0
  go_enter Tryz.func75,Tryz.ntmps75
  go_wp2_with fail;refine wp_region_held_drew (S:=fun _=>True) (by kernel_rfl) trivial (fun hHeld=>?_)
  refine tkv 0 (h:=tkv 1 (h:=tkv 2 (h:=?_)))
  refine tkn 3 (h:=tkn 4 (h:=tkn 5 (h:=tkn 6 (h:=tkn 7 (h:=tkn 8 (h:=?_))))))
  refine tkn 9 (h:=tkn 10 (h:=tkn 11 (h:=tkn 12 (h:=tkn 13 (h:=tkn 14 (h:=?_))))))
  refine tkn 15 (h:=tkn 16 (h:=tkn 17 (h:=tkn 18 (h:=tkn 19 (h:=tkn 20 (h:=?_))))))
  refine tkn 21 (h:=tkn 22 (h:=tkn 23 (h:=tkn 24 (h:=tkn 25 (h:=tkn 26 (h:=?_))))))
  refine tkn 27 (h:=tkn 28 (h:=tkn 29 (h:=tkn 30 (h:=tkn 31 (h:=tkn 32 (h:=?_))))))
  refine tkn 33 (h:=tkn 34 (h:=tkn 35 (h:=tkn 36 (h:=tkn 37 (h:=tkn 38 (h:=?_))))))
  refine tkv 39 (h:=?_)
  refine wpAnyH_done (by kernel_rfl) ?_ _
  go_wp2_with fail;refine (zDD x A' c' _ ?_ hs V hv).mono ?_
  ·exact ((HAT.out.below (((Below.refl _ w).alloc (Nat.le_refl _) _).drew)).more (by simp))
  rintro e w3 ⟨rfl,hb3⟩
  go_wp2_with fail
  go_ret;exact ⟨rfl,(((Below.refl _ w).alloc (Nat.le_refl _) _).drew).trans (hb3.mono (by simp))⟩
theorem zJ0 (l:List ItemD) (ad:Addr) (c k:Nat) (x p:ItemD) (w:World) (hA:ItemsAt w w.heap.size (some ad) l) (hk0:0<k) (hx:l[k]? = some x) (hp:l[k-1]? = some p) (hlen:l.length≤1000000000) (hpl:-9000000000000000000≤p.level∧p.level≤9000000000000000000) (hs:SmallItem x) (V:Int) (hV:Hid (oneE (some p) k x=V)) :
  Calls Tryz.prog 75 #[.slice (some ad) l.length c,.int .i64 k] w (Ret w (.int .i64 V)):=by
 have hl:k<l.length:=(List.getElem?_eq_some_iff.1 hx).1
 obtain ⟨hbl,A',c',hat,_,h0,h1,h2,h3,h4⟩:=hA.item hx
 obtain ⟨_,A2,c2,_,_,g0,g1,_,_,_⟩:=hA.item hp
 unfold strV at h2 h3;have HAT:=Lib.hid hat
 have hV':=hV.out
 clear hA hx hp hV hat;have i1:(0:Int)≤(k:Int):=by omega
 have i2:(1:Int)≤(k:Int):=by omega
 have i3:(k:Int)<l.length:=by omega
 have i4:(0:Int)≤(k:Int)-1:=by omega
 have i5:(k:Int)-1<l.length:=by omega
 have t0:((k:Int) == 0)=false:=by simp;omega
 have t1:decide ((0:Int)<(k:Int))=true:=by simp;omega
 have t2:decide (0<k)=true:=by simp;omega
 obtain ⟨lo,hi⟩:=hpl
 have hs5:=hs.2.2.2.2
 have HS:=Lib.hid hs
 clear hs;obtain ⟨W1,hW1⟩:∃ W1,Hid (W1=w.alloc (.cells #[.int .i64 x.level,.int .i64 x.kind,.string ⟨x.name.toArray⟩,.string ⟨x.text.toArray⟩,.slice A' x.attrs.length c'] 75)):=⟨_,rfl⟩
 have hS:Hid (W1.drew.cell? ⟨w.heap.size,0,none⟩=some (.int .i64 x.level)∧W1.drew.cell? (ad.add ((k-1) * 5))=some (.int .i64 p.level)∧W1.drew.cell? ⟨(ad.add ((k-1) * 5)).block,(ad.add ((k-1) * 5)).off+1,none⟩=some (.int .i64 p.kind)):=by
  refine ⟨?_,?_,?_⟩
  ·rw [hW1.out];show (w.alloc _).cell? _=_;rw [World.cell?_alloc_at _ _ _ _ (by simp)];rfl
  ·rw [hW1.out];show (w.alloc _).cell? _=_;rw [World.cell?_alloc_lt _ _ _ (by rw [zAD];exact hbl)];exact g0
  ·rw [hW1.out];show (w.alloc _).cell? _=_;rw [World.cell?_alloc_lt _ _ _ (by show (ad.add _).block<_;rw [zAD];exact hbl)];exact g1
 have hbW:Below w.heap.size w W1:=by rw [hW1.out];exact (Below.refl _ w).alloc (Nat.le_refl _) _
 have hzW:w.heap.size<W1.heap.size:=by rw [hW1.out];simp
 have hcs:Hid (∀ w',Below W1.heap.size W1 w'→w'.cell? ⟨w.heap.size,0,none⟩=some (.int .i64 x.level)∧w'.cell? ⟨w.heap.size,1,none⟩=some (.int .i64 x.kind)∧w'.cell? ⟨w.heap.size,2,none⟩=some (.string ⟨x.name.toArray⟩)∧w'.cell? ⟨w.heap.size,3,none⟩=some (.string ⟨x.text.toArray⟩)∧w'.cell? ⟨w.heap.size,4,none⟩=some (.slice A' x.attrs.length c')):=fun w' hb=>by
  refine ⟨?_,?_,?_,?_,?_⟩
  all_goals
   rw [hb.cell (by exact hzW),hW1.out,World.cell?_alloc_at _ _ _ _ (by simp)];rfl
 by_cases c1:x.level<1
 ·skip
  have hv:Hid (69=V):=by
   show _=_
   rw [← hV'];unfold oneE;have:placeE (some p) k x=69:=by unfold placeE;exact if_pos (.inl c1)
   rw [this];rfl
  have d1:decide (x.level<1)=true:=by simp;omega
  clear hV'
  go_enter Tryz.func75,Tryz.ntmps75
  go_wp2_with fail;rw [← hW1.out];refine wp_region_held_drew (S:=fun w'=>w'.cell? ⟨w.heap.size,0,none⟩=some (.int .i64 x.level)∧w'.cell? (ad.add ((k-1) * 5))=some (.int .i64 p.level)∧w'.cell? ⟨(ad.add ((k-1) * 5)).block,(ad.add ((k-1) * 5)).off+1,none⟩=some (.int .i64 p.kind)) (by kernel_rfl) hS.out (fun hHeld=>?_)
  refine tkv 0 (h:=tkv 1 (h:=tkv 2 (h:=tkv 3 (h:=tkv 4 (h:=tkv 5 (h:=?_))))))
  refine tkv 6 (h:=?_)
  refine tkn 7 (h:=tkn 8 (h:=tkn 9 (h:=tkn 10 (h:=tkn 11 (h:=tkn 12 (h:=?_))))))
  refine tkn 13 (h:=tkn 14 (h:=tkn 15 (h:=tkn 16 (h:=?_))))
  refine tkv 17 (h:=tkv 18 (h:=?_))
  refine tkn 19 (h:=tkn 20 (h:=tkn 21 (h:=tkn 22 (h:=tkn 23 (h:=tkn 24 (h:=?_))))))
  refine tkn 25 (h:=tkn 26 (h:=tkn 27 (h:=tkn 28 (h:=tkn 29 (h:=tkn 30 (h:=?_))))))
  refine tkn 31 (h:=tkn 32 (h:=tkn 33 (h:=tkn 34 (h:=tkn 35 (h:=tkn 36 (h:=?_))))))
  refine tkn 37 (h:=?_)
  refine tkv 38 (h:=tkv 39 (h:=?_))
  refine wpAnyH_done (by kernel_rfl) ?_ _
  clear hW1
  go_wp2_with fail
  go_ret;exact ⟨by rw [← hv.out];rfl,hbW.trans ((Below.refl _ W1).drew.mono (Nat.le_of_lt hzW))⟩
 have n1:1≤x.level:=by omega
 by_cases c2:p.level+1<x.level
 ·skip
  have hv:Hid (69=V):=by
   show _=_
   rw [← hV'];unfold oneE;have:placeE (some p) k x=69:=by unfold placeE;exact if_pos (.inr (.inl c2))
   rw [this];rfl
  have d1:decide (x.level<1)=false:=by simp;omega
  have w1:IntKind.i64.wrap (x.level-1)=x.level-1:=IntWalk.i64_in _ (by omega)
  have d2:decide (p.level<x.level-1)=true:=by simp;omega
  have wk:IntKind.i64.wrap ((k:Int)-1)=(k:Int)-1:=IntWalk.i64_in _ (by omega)
  have kn:((k:Int)-1).toNat=k-1:=by omega
  clear hV'
  go_enter Tryz.func75,Tryz.ntmps75
  go_wp2_with fail;rw [← hW1.out];refine wp_region_held_drew (S:=fun w'=>w'.cell? ⟨w.heap.size,0,none⟩=some (.int .i64 x.level)∧w'.cell? (ad.add ((k-1) * 5))=some (.int .i64 p.level)∧w'.cell? ⟨(ad.add ((k-1) * 5)).block,(ad.add ((k-1) * 5)).off+1,none⟩=some (.int .i64 p.kind)) (by kernel_rfl) hS.out (fun hHeld=>?_)
  refine tkv 0 (h:=tkv 1 (h:=tkv 2 (h:=tkv 3 (h:=tkv 4 (h:=tkv 5 (h:=?_))))))
  refine tkv 6 (h:=tkv 7 (h:=tkv 8 (h:=tkv 9 (h:=tkv 10 (h:=tkv 11 (h:=?_))))))
  refine tkv 12 (h:=tkv 13 (h:=tkv 14 (h:=tkv 15 (h:=tkv 16 (h:=tkv 17 (h:=?_))))))
  refine tkv 18 (h:=?_)
  refine tkn 19 (h:=tkn 20 (h:=tkn 21 (h:=tkn 22 (h:=tkn 23 (h:=tkn 24 (h:=?_))))))
  refine tkn 25 (h:=tkn 26 (h:=tkn 27 (h:=tkn 28 (h:=tkn 29 (h:=tkn 30 (h:=?_))))))
  refine tkn 31 (h:=tkn 32 (h:=tkn 33 (h:=tkn 34 (h:=tkn 35 (h:=tkn 36 (h:=?_))))))
  refine tkn 37 (h:=?_)
  refine tkv 38 (h:=tkv 39 (h:=?_))
  refine wpAnyH_done (by kernel_rfl) ?_ _
  clear hW1
  go_wp2_with fail
  go_ret;exact ⟨by rw [← hv.out];rfl,hbW.trans ((Below.refl _ W1).drew.mono (Nat.le_of_lt hzW))⟩
 by_cases c3:p.level<x.level
 ·by_cases c4:p.kind=2
  ·skip
   have hv:Hid (69=V):=by
    show _=_
    rw [← hV'];unfold oneE;have:placeE (some p) k x=69:=by unfold placeE;exact if_pos (.inr (.inr ⟨c3,c4⟩))
    rw [this];rfl
   have d1:decide (x.level<1)=false:=by simp;omega
   have w1:IntKind.i64.wrap (x.level-1)=x.level-1:=IntWalk.i64_in _ (by omega)
   have d2:decide (p.level<x.level-1)=false:=by simp;omega
   have d3:(x.level-1 == p.level)=true:=by simp;omega
   have d4:(p.kind == 2)=true:=by simp [c4]
   have wk:IntKind.i64.wrap ((k:Int)-1)=(k:Int)-1:=IntWalk.i64_in _ (by omega)
   have kn:((k:Int)-1).toNat=k-1:=by omega
   clear hV'
   go_enter Tryz.func75,Tryz.ntmps75
   go_wp2_with fail;rw [← hW1.out];refine wp_region_held_drew (S:=fun w'=>w'.cell? ⟨w.heap.size,0,none⟩=some (.int .i64 x.level)∧w'.cell? (ad.add ((k-1) * 5))=some (.int .i64 p.level)∧w'.cell? ⟨(ad.add ((k-1) * 5)).block,(ad.add ((k-1) * 5)).off+1,none⟩=some (.int .i64 p.kind)) (by kernel_rfl) hS.out (fun hHeld=>?_)
   refine tkv 0 (h:=tkv 1 (h:=tkv 2 (h:=tkv 3 (h:=tkv 4 (h:=tkv 5 (h:=?_))))))
   refine tkv 6 (h:=tkv 7 (h:=tkv 8 (h:=tkv 9 (h:=tkv 10 (h:=tkv 11 (h:=?_))))))
   refine tkv 12 (h:=tkv 13 (h:=tkv 14 (h:=tkv 15 (h:=tkv 16 (h:=tkv 17 (h:=?_))))))
   refine tkv 18 (h:=tkv 19 (h:=tkv 20 (h:=tkv 21 (h:=tkv 22 (h:=tkv 23 (h:=?_))))))
   refine tkv 24 (h:=tkv 25 (h:=tkv 26 (h:=tkv 27 (h:=tkv 28 (h:=tkv 29 (h:=?_))))))
   refine tkv 30 (h:=tkv 31 (h:=tkv 32 (h:=tkv 33 (h:=tkv 34 (h:=tkv 35 (h:=?_))))))
   refine tkv 36 (h:=tkv 37 (h:=tkv 38 (h:=tkv 39 (h:=?_))))
   refine wpAnyH_done (by kernel_rfl) ?_ _
   clear hW1
   go_wp2_with fail
   go_ret;exact ⟨by rw [← hv.out];rfl,hbW.trans ((Below.refl _ W1).drew.mono (Nat.le_of_lt hzW))⟩
  ·skip
   have hpl:placeE (some p) k x=(if 40≤x.level then (42:Int) else if 1000≤k then 43 else 0):=by unfold placeE;exact if_neg (by omega)
   have hv':Hid ((if (if 40≤x.level then (42:Int) else if 1000≤k then 43 else 0)=0 then partsE x else (if 40≤x.level then (42:Int) else if 1000≤k then 43 else 0))=V):=by show _=_;rw [← hV'];unfold oneE;rw [hpl]
   clear hpl;have d1:decide (x.level<1)=false:=by simp;omega
   have w1:IntKind.i64.wrap (x.level-1)=x.level-1:=IntWalk.i64_in _ (by omega)
   have d2:decide (p.level<x.level-1)=false:=by simp;omega
   have d3:(x.level-1 == p.level)=true:=by simp;omega
   have d4:(p.kind == 2)=false:=by simp [c4]
   have wk:IntKind.i64.wrap ((k:Int)-1)=(k:Int)-1:=IntWalk.i64_in _ (by omega)
   have kn:((k:Int)-1).toNat=k-1:=by omega
   clear hV'
   go_enter Tryz.func75,Tryz.ntmps75
   go_wp2_with fail;rw [← hW1.out];refine wp_region_held_drew (S:=fun w'=>w'.cell? ⟨w.heap.size,0,none⟩=some (.int .i64 x.level)∧w'.cell? (ad.add ((k-1) * 5))=some (.int .i64 p.level)∧w'.cell? ⟨(ad.add ((k-1) * 5)).block,(ad.add ((k-1) * 5)).off+1,none⟩=some (.int .i64 p.kind)) (by kernel_rfl) hS.out (fun hHeld=>?_)
   refine tkv 0 (h:=tkv 1 (h:=tkv 2 (h:=tkv 3 (h:=tkv 4 (h:=tkv 5 (h:=?_))))))
   refine tkv 6 (h:=tkv 7 (h:=tkv 8 (h:=tkv 9 (h:=tkv 10 (h:=tkv 11 (h:=?_))))))
   refine tkv 12 (h:=tkv 13 (h:=tkv 14 (h:=tkv 15 (h:=tkv 16 (h:=tkv 17 (h:=?_))))))
   refine tkv 18 (h:=tkv 19 (h:=tkv 20 (h:=tkv 21 (h:=tkv 22 (h:=tkv 23 (h:=?_))))))
   refine tkv 24 (h:=tkv 25 (h:=tkv 26 (h:=tkv 27 (h:=tkv 28 (h:=tkv 29 (h:=?_))))))
   refine tkv 30 (h:=tkv 31 (h:=tkv 32 (h:=tkv 33 (h:=tkv 34 (h:=tkv 35 (h:=?_))))))
   refine tkv 36 (h:=tkv 37 (h:=tkv 38 (h:=tkv 39 (h:=?_))))
   refine wpAnyH_done (by kernel_rfl) ?_ _
   clear hW1 wk kn w1 t0 t1 t2 d1 d2 d3;have hbD:Below W1.heap.size W1 W1.drew:=(Below.refl _ W1).drew
   obtain ⟨e0,e1,e2,e3,e4⟩:=hcs.out _ hbD
   have hbD':=hbW.trans (hbD.mono (Nat.le_of_lt hzW))
   by_cases l40:40≤x.level
   ·have hv:Hid (42=V):=by show _=_;rw [← hv'.out,if_pos l40];rfl
    clear hv'
    go_wp2_with fail
    go_ret;exact ⟨by rw [← hv.out];rfl,hbD'⟩
   by_cases k1000:1000≤k
   ·have hv:Hid (43=V):=by show _=_;rw [← hv'.out,if_neg l40,if_pos k1000];rfl
    clear hv';have k1':(1000:Int)≤k:=by omega
    go_wp2_with fail
    go_ret;exact ⟨by rw [← hv.out];rfl,hbD'⟩
   have hv:Hid (partsE x=V):=by show _=_;rw [← hv'.out,if_neg l40,if_neg k1000,if_pos rfl]
   clear hv';have k1':(k:Int)<1000:=by omega
   have l40':x.level<40:=by omega
   go_wp2_with fail;refine (zDD x A' c' _ ?_ HS.out V hv).mono ?_
   ·exact (HAT.out.below hbD').more hbD'.size
   rintro e w3 ⟨rfl,hb3⟩
   go_wp2_with fail
   go_ret;exact ⟨rfl,hbD'.trans (hb3.mono hbD'.size)⟩
 ·skip
  have hpl:placeE (some p) k x=(if 40≤x.level then (42:Int) else if 1000≤k then 43 else 0):=by unfold placeE;exact if_neg (by omega)
  have hv':Hid ((if (if 40≤x.level then (42:Int) else if 1000≤k then 43 else 0)=0 then partsE x else (if 40≤x.level then (42:Int) else if 1000≤k then 43 else 0))=V):=by show _=_;rw [← hV'];unfold oneE;rw [hpl]
  clear hpl;have d1:decide (x.level<1)=false:=by simp;omega
  have w1:IntKind.i64.wrap (x.level-1)=x.level-1:=IntWalk.i64_in _ (by omega)
  have d2:decide (p.level<x.level-1)=false:=by simp;omega
  have d3:(x.level-1 == p.level)=false:=by simp;omega
  have wk:IntKind.i64.wrap ((k:Int)-1)=(k:Int)-1:=IntWalk.i64_in _ (by omega)
  have kn:((k:Int)-1).toNat=k-1:=by omega
  clear hV'
  go_enter Tryz.func75,Tryz.ntmps75
  go_wp2_with fail;rw [← hW1.out];refine wp_region_held_drew (S:=fun w'=>w'.cell? ⟨w.heap.size,0,none⟩=some (.int .i64 x.level)∧w'.cell? (ad.add ((k-1) * 5))=some (.int .i64 p.level)∧w'.cell? ⟨(ad.add ((k-1) * 5)).block,(ad.add ((k-1) * 5)).off+1,none⟩=some (.int .i64 p.kind)) (by kernel_rfl) hS.out (fun hHeld=>?_)
  refine tkv 0 (h:=tkv 1 (h:=tkv 2 (h:=tkv 3 (h:=tkv 4 (h:=tkv 5 (h:=?_))))))
  refine tkv 6 (h:=tkv 7 (h:=tkv 8 (h:=tkv 9 (h:=tkv 10 (h:=tkv 11 (h:=?_))))))
  refine tkv 12 (h:=tkv 13 (h:=tkv 14 (h:=tkv 15 (h:=tkv 16 (h:=tkv 17 (h:=?_))))))
  refine tkv 18 (h:=tkv 19 (h:=tkv 20 (h:=tkv 21 (h:=tkv 22 (h:=tkv 23 (h:=?_))))))
  refine tkv 24 (h:=tkv 25 (h:=tkv 26 (h:=tkv 27 (h:=tkv 28 (h:=tkv 29 (h:=?_))))))
  refine tkn 30 (h:=tkn 31 (h:=tkn 32 (h:=tkn 33 (h:=tkn 34 (h:=tkn 35 (h:=?_))))))
  refine tkn 36 (h:=?_)
  refine tkv 37 (h:=tkv 38 (h:=tkv 39 (h:=?_)))
  refine wpAnyH_done (by kernel_rfl) ?_ _
  clear hW1 wk kn w1 t0 t1 t2 d1 d2 d3;have hbD:Below W1.heap.size W1 W1.drew:=(Below.refl _ W1).drew
  obtain ⟨e0,e1,e2,e3,e4⟩:=hcs.out _ hbD
  have hbD':=hbW.trans (hbD.mono (Nat.le_of_lt hzW))
  by_cases l40:40≤x.level
  ·have hv:Hid (42=V):=by show _=_;rw [← hv'.out,if_pos l40];rfl
   clear hv'
   go_wp2_with fail
   go_ret;exact ⟨by rw [← hv.out];rfl,hbD'⟩
  by_cases k1000:1000≤k
  ·have hv:Hid (43=V):=by show _=_;rw [← hv'.out,if_neg l40,if_pos k1000];rfl
   clear hv';have k1':(1000:Int)≤k:=by omega
   go_wp2_with fail
   go_ret;exact ⟨by rw [← hv.out];rfl,hbD'⟩
  have hv:Hid (partsE x=V):=by show _=_;rw [← hv'.out,if_neg l40,if_neg k1000,if_pos rfl]
  clear hv';have k1':(k:Int)<1000:=by omega
  have l40':x.level<40:=by omega
  go_wp2_with fail;refine (zDD x A' c' _ ?_ HS.out V hv).mono ?_
  ·exact (HAT.out.below hbD').more hbD'.size
  rintro e w3 ⟨rfl,hb3⟩
  go_wp2_with fail
  go_ret;exact ⟨rfl,hbD'.trans (hb3.mono hbD'.size)⟩
end
section
open Go.RowKit
theorem zHa (l:List ItemD) (A:Option Addr) (c k:Nat) (x:ItemD) (w:World) (hA:ItemsAt w w.heap.size A l) (hx:l[k]? = some x) (hlen:l.length≤1000000000) (hpl:∀ p,prevOf l k=some p→0≤p.level∧p.level<40) (hs:SmallItem x) (V:Int) (hV:Hid (oneE (prevOf l k) k x=V)) :
  Calls Tryz.prog 75 #[.slice A l.length c,.int .i64 k] w (Ret w (.int .i64 V)):=by
 have hl:k<l.length:=(List.getElem?_eq_some_iff.1 hx).1
 obtain ⟨ad,rfl,_⟩:=hA (by omega)
 by_cases hk:k=0
 ·subst hk
  exact zJz l ad c x w hA hx hlen hs V hV
 ·have hp:l[k-1]? = some l[k-1]:=List.getElem?_eq_getElem _
  have he:prevOf l k=some l[k-1]:=by unfold prevOf;rw [if_neg hk,hp]
  have hb:=hpl _ he
  rw [he] at hV;exact zJ0 l ad c k x _ w hA (by omega) hx hp hlen (by omega) hs V hV
theorem zIB (l:List ItemD) (A:Option Addr) (c:Nat) (w:World) (hA:ItemsAt w w.heap.size A l) (hs:SmallItems l) (n e:Int) (hV:Hid (checkL l=(n,e))) :
  Calls Tryz.prog 52 #[.slice A l.length c] w (Ret w (.tuple #[.int .i64 n,.int .i64 e])):=by
 obtain ⟨hs1,hs2⟩:=hs
 have HS:=Lib.hid hs2
 have HA:=Lib.hid hA
 clear hs2 hA;by_cases h0:l=[]
 ·have hv:Hid (n=0∧e=40):=by
   have:=hV.out
   unfold checkL at this;rw [if_pos h0] at this
   injection this with a b
   exact ⟨a.symm,b.symm⟩
  have hlen:l.length=0:=by rw [h0];rfl
  rw [hlen];clear h0 hV hs1 hlen
  go_enter Tryz.func52,Tryz.ntmps52
  go_wp2_with fail
  go_ret2;obtain ⟨rfl,rfl⟩:=hv.out
  exact ⟨rfl,Below.refl _ _⟩
 ·have hpos:0<l.length:=List.length_pos_iff.2 h0
  have hC:Hid (checkF (prevOf l 0) 0 (l.drop 0)=(n,e)):=by
   have:=hV.out
   unfold checkL at this;rw [if_neg h0] at this;exact this
  have t0:((l.length:Int) == 0)=false:=by simp;omega
  clear h0 hV
  go_enter Tryz.func52,Tryz.ntmps52
  go_wp2_with fail
  go_loopw [4] (fun i wr=>∃ (k:Nat),k≤l.length∧i=.int .i64 k∧Hid (checkF (prevOf l k) k (l.drop k)=(n,e))∧Hid (∀ p,prevOf l k=some p→0≤p.level∧p.level<40)∧Below w.heap.size w wr) (fun i _=>l.length-(intOf i).toNat)
  case atStart=>exact ⟨0,Nat.zero_le _,rfl,hC,fun p hp=>by simp [prevOf] at hp,Below.refl _ _⟩
  case round =>
   obtain ⟨k,hk,rfl,hin,hpv,hbel⟩:=hrel
   have hzr:=hbel.size
   by_cases hlt:k<l.length
   ·obtain ⟨x,hx⟩:∃ x,Hid (l[k]? = some x):=⟨l[k],List.getElem?_eq_getElem _⟩
    have hAr:=Lib.hid (HA.out.below hbel)
    have hsx:=Lib.hid (HS.out k x hx.out)
    have hin':=hin.out
    rw [zDu hx.out] at hin';have hlt':(k:Int)<l.length:=by omega
    obtain ⟨q,hq⟩:∃ q,Hid (oneE (prevOf l k) k x=q):=⟨_,rfl⟩
    rw [hq.out] at hin';by_cases hq0:q=0
    ·rw [if_pos hq0] at hin'
     have HIN:=Lib.hid hin'
     subst hq0;have hpv':Hid (∀ p,prevOf l (k+1)=some p→0≤p.level∧p.level<40):=fun p hp=>by
      rw [zBv hx.out] at hp
      injection hp with hp;subst hp
      exact zCc (zCA hq.out).1
     clear hin' hin
     go_wp2_with fail;refine (zHa l A c k x wr (hAr.out.more hzr) hx.out hs1 hpv.out hsx.out 0 hq).mono ?_;rintro e2 w2 ⟨rfl,hb2⟩;have hb2':Below w.heap.size w w2:=hbel.trans (hb2.mono hzr)
     go_wp2_with fail
     go_roundw
     case rel=>exact ⟨k+1,by omega,by go_num,HIN,hpv',hb2'⟩
     case measure=>simp [intOf];omega
    ·rw [if_neg hq0] at hin'
     have HIN:=Lib.hid hin'
     have tq':(q != 0)=true:=by simp [hq0]
     clear hin' hin hq0
     go_wp2_with fail;refine (zHa l A c k x wr (hAr.out.more hzr) hx.out hs1 hpv.out hsx.out q hq).mono ?_;rintro e2 w2 ⟨rfl,hb2⟩;have hb2':Below w.heap.size w w2:=hbel.trans (hb2.mono hzr)
     go_wp2_with fail
     go_ret2;have:=HIN.out
     injection this with a b
     subst a;subst b;exact ⟨rfl,hb2'⟩
   ·have hk':k=l.length:=by omega
    have HIN:Hid ((0,0)=(n,e)):=by
     show _=_
     rw [← hin.out,List.drop_eq_nil_of_le (by omega)];rfl
    subst hk';clear hin hlt hk hpv
    go_wp2_with fail
    go_ret2;have:=HIN.out
    injection this with a b
    subst a;subst b;exact ⟨rfl,hbel⟩
end
section
open Go.RowKit Go.Shelf
variable {X:Nat→Prop}
theorem zBw {P:Program} {fn:Func} {p u v:Tmp} {ty:TypeId} (h:fn.results=#[.cell p ty,.tmp u,.tmp v]) (tmps:Array Value) (w:World) (g:Nat) (t:TypeId) (cs:Array Value) (fr:Nat × Nat) (d:TypeDesc)
  (hp:tmps.getD p undef=.pointer (some ⟨g,0,none⟩)) (hg:w.heap[g]? = some (.cells cs t fr))
  (hu:P.underlying ty=some d) (hd:(match d with | .struct _ | .array _ _=>true | _=>false)=true) (hi:(P.info? ty).map (·.size)=some cs.size) :
  (results fn tmps).run P w=.ok (.tuple #[.agg cs,tmps.getD u undef,tmps.getD v undef]) w:=by
 have hp':tmps[p]?.getD undef=.pointer (some ⟨g,0,none⟩):=by simpa using hp
 simp [results,h,hp',asAddr,Result.andThen,run_loadVar_row w g t ty cs fr d hg hu hd hi]
theorem zAb {P:Program} {ops:Array Oper} {o:Oper} {a:Act} {w:World} {K:Act→World→Prop} {Q:Exit→Act→World→Prop} {E:Prop}
  (hg:o.guard=none) (ty:TypeId) (x y:Operand) (ho:o.op=.store ty x y)
  (g:Nat) (cells:Array Value) (hx:a.eval x=.pointer (some ⟨g,0,none⟩)) (hy:a.eval y=.agg cells)
  (t:TypeId) (old:Array Value) (hgh:w.heap[g]? = some (.cells old t (0,0))) (hi:(P.info? ty).map (·.size)=some cells.size)
  (hold:old.size=cells.size) (h1:cells.all (·.oneCell')=true) (hK:K (a.put o.dst undef) (w.setRow g cells)) :
  if Region.wanted o (yielded ops a.tmps)=true then Oper.wp P o a w K Q else E:=by
 have hw:Region.wanted o (yielded ops a.tmps)=true:=by simp [Region.wanted,hg]
 rw [if_pos hw];exact wp_store_row ty x y ho g cells hx hy t old hgh hi hold h1 hK
theorem zI3 (L:List RowD) (A:Option Addr) (c:Nat) (next:Int) (l:List ItemD) (Al:Option Addr) (cl:Nat) (w:World) (hT:TreeR X w A c L) (N:Nat) (hi:ItemsAt w N Al l) (hN:N≤w.heap.size) (hNX:∀ b,b<N→X b) (hX:∀ b,w.heap.size≤b→X b) (hsm:SmallItems l) (hln:l.length≤2000000) (hlv:(checkL l).2=0 → ∀ x∈l,(-1000000≤x.level∧x.level≤1000000)) (hnx:0≤next∧next≤4294967296) :
  Calls Tryz.prog 32 #[.agg #[.slice A L.length c,.int .i64 next],.slice Al l.length cl] w (TPost3 X w (loadL L next l)):=by
 obtain ⟨hn0,hn1⟩:=hnx
 obtain ⟨cn,ce,hce⟩:∃ cn ce,Hid (checkL l=(cn,ce)):=⟨_,_,rfl⟩
 have hf':loadL L next l=if ce≠0 then (L,next,0,ce) else if 2147483647<next+(l.length:Int) then (L,next,0,66) else (namedL next l 0,next+(l.length:Int),next,0):=by
  unfold loadL;rw [hce.out]
 obtain ⟨a,ha⟩:∃ a,Hid (a=loadL L next l):=⟨_,rfl⟩
 rw [← ha.out];have HA:=Lib.hid (ha.out.trans hf')
 have HI:=Lib.hid hi
 have HSM:=Lib.hid hsm
 have HLV:=Lib.hid hlv
 have HNX:=Lib.hid hNX
 have HXN:=Lib.hid hX
 clear hf' ha hi hsm hlv hNX hX;have l0:(0:Int)≤(l.length:Int):=by omega
 have l1:(l.length:Int)≤2000000:=by omega
 obtain ⟨W2,hW2⟩:∃ W2,Hid (W2=(w.alloc (.cells #[.slice A L.length c,.int .i64 next] 27)).alloc (.cells #[.slice none 0 0,.int .i64 0] 27)):=⟨_,rfl⟩
 have hb2:Below w.heap.size w W2:=by rw [hW2.out];exact ((Below.refl _ w).alloc (Nat.le_refl _) _).alloc (by simp) _
 have hz2:W2.heap.size=w.heap.size+2:=by rw [hW2.out];simp
 have hx2:W2.heap[w.heap.size]? = some (.cells (treeV A L.length c next) 27 (0,0)):=by
  rw [hW2.out];exact (Below.heap_alloc _ _ _ (by simp)).trans (heap_alloc_new w _)
 have hy2:W2.heap[w.heap.size+1]? = some (.cells zeroT 27 (0,0)):=by
  rw [hW2.out];have:=heap_alloc_new (w.alloc (.cells #[.slice A L.length c,.int .i64 next] 27)) (.cells #[.slice none 0 0,.int .i64 0] 27)
  simpa [zeroT] using this
 have HT2:=Lib.hid (hT.below hb2)
 have HT:=Lib.hid hT
 have HB2:=Lib.hid hb2
 have HX2:=Lib.hid hx2
 have HY2:=Lib.hid hy2
 have HZ2:=Lib.hid hz2
 clear hb2 hx2 hy2 hz2 hT
 go_enter Tryz.func32,Tryz.ntmps32
 go_wp2_with fail;rw [← hW2.out];refine (zIB l Al cl W2 ((HI.out.below (HB2.out.mono hN)).more (Nat.le_trans hN HB2.out.size)) HSM.out cn ce hce).mono ?_
 rintro e3 w3 ⟨rfl,hb3⟩;have hx3:=(hb3.block w.heap.size (by have:=HZ2.out;omega)).trans HX2.out
 have HY3:Hid (w3.heap[w.heap.size+1]? = some (.cells zeroT 27 (0,0))):=(hb3.block (w.heap.size+1) (by have:=HZ2.out;omega)).trans HY2.out
 have HT3:=Lib.hid (HT2.out.below hb3)
 have HB3:Hid (Below w.heap.size w w3):=HB2.out.trans (hb3.mono HB2.out.size)
 have HZ3:Hid (w.heap.size+2≤w3.heap.size):=by show _≤_;have:=hb3.size;have:=HZ2.out;omega
 have HX3:=Lib.hid hx3
 clear hb3 hx3;by_cases hc0:ce≠0
 ·have HE:Hid (a=(L,next,0,ce)):=HA.out.trans (if_pos hc0)
  have hc0':(ce != 0)=true:=by simpa using hc0
  clear hc0
  go_upto_region 3 with (fail)
  have e0:=zAA HX3.out 0 _ rfl
  have e1:=zAA HX3.out 1 _ rfl
  go_wp2_with (refine wpList_store_row rfl 27 (.tmp 4) (.tmp 16) rfl (w.heap.size+1) (treeV A L.length c next) rfl rfl 27 zeroT HY3.out (by kernel_rfl) rfl (zBq _ _ _ _) ?_)
  try simp only [Exit.inBlock,Exit.then]
  refine bodyPost_ret (zBw Tryz.results32 _ _ (w.heap.size+1) 27 (treeV A L.length c next) (0,0) _ rfl (setRow_heap _ _ _ _ _ _ HY3.out) Tryz.underlying27 rfl (by kernel_rfl)) rfl ?_
  obtain ⟨q1,q2⟩:=HT3.out.laid HB3.out (g:=w.heap.size+1) (by omega) HY3.out (treeV A L.length c next)
  rw [HE.out];exact ⟨A,c,rfl,q1,q2⟩
 have HA:=Lib.hid (HA.out.trans (if_neg hc0))
 have HLC:Hid (l.length≤1000000):=by
  obtain ⟨_,_,_,_,_,_,_,_,h⟩:=(zDe l).1 (by rw [hce.out];exact Decidable.not_not.1 hc0)
  show _≤_
  omega
 replace HLV:=Lib.hid (HLV.out (by rw [hce.out];exact Decidable.not_not.1 hc0))
 have hc0':(ce != 0)=false:=by simpa using hc0
 clear hc0;have e1:w3.cell? ⟨w.heap.size,1,none⟩=some (.int .i64 next):=zAA HX3.out 1 _ rfl
 have hwr:IntKind.i64.wrap (next+(l.length:Int))=next+(l.length:Int):=IntWalk.i64_in _ (by omega)
 by_cases hm:2147483647<next+(l.length:Int)
 ·have HE:Hid (a=(L,next,0,66)):=HA.out.trans (if_pos hm)
  go_upto_region 5 with (fail)
  have e0:=zAA HX3.out 0 _ rfl
  have e1:=zAA HX3.out 1 _ rfl
  go_wp2_with (refine wpList_store_row rfl 27 (.tmp 4) (.tmp 24) rfl (w.heap.size+1) (treeV A L.length c next) rfl rfl 27 zeroT HY3.out (by kernel_rfl) rfl (zBq _ _ _ _) ?_)
  try simp only [Exit.inBlock,Exit.then]
  refine bodyPost_ret (zBw Tryz.results32 _ _ (w.heap.size+1) 27 (treeV A L.length c next) (0,0) _ rfl (setRow_heap _ _ _ _ _ _ HY3.out) Tryz.underlying27 rfl (by kernel_rfl)) rfl ?_
  obtain ⟨q1,q2⟩:=HT3.out.laid HB3.out (g:=w.heap.size+1) (by omega) HY3.out (treeV A L.length c next)
  rw [HE.out];exact ⟨A,c,rfl,q1,q2⟩
 have HE:Hid (a=(namedL next l 0,next+(l.length:Int),next,0)):=HA.out.trans (if_neg hm)
 have hm':¬ (2147483647:Int)<next+(l.length:Int):=hm
 have e0:w3.cell? ⟨w.heap.size,0,none⟩=some (.slice A L.length c):=zAA HX3.out 0 _ rfl
 go_upto_region 6 with (fail)
 clear hm' hm hc0';have hS:Hid (w3.drew.cell? ⟨w.heap.size,0,none⟩=some (.slice A L.length c)∧w3.drew.cell? ⟨w.heap.size,1,none⟩=some (.int .i64 next)):=⟨e0,e1⟩
 have HB3D:Hid (Below w.heap.size w w3.drew):=HB3.out.trans ⟨rfl,rfl,rfl,Nat.le_refl _,fun _ _=>rfl⟩
 have HID:=Lib.hid (HI.out.below (HB3D.out.mono hN))
 refine wp_region_held_drew (S:=fun w'=>w'.cell? ⟨w.heap.size,0,none⟩=some (.slice A L.length c)∧w'.cell? ⟨w.heap.size,1,none⟩=some (.int .i64 next)) (by kernel_rfl) hS.out (fun hHeld=>?_)
 refine tkv 0 (h:=tkv 1 (h:=?_))
 refine tkv 3 (h:=tkv 4 (h:=tkv 5 (h:=tkv 6 (h:=tkv 7 (h:=?_)))))
 refine tkv 9 (h:=tkv 10 (h:=?_))
 refine rdy 2 (fun K hK=>?_)
 go_simp
 refine (zKc A L.length c next 0 l Al cl N w3.drew HID.out (Nat.le_trans hN HB3D.out.size) HLC.out HLV.out (by omega) (by omega) HNX.out).mono ?_
 rintro e4 w4 ⟨A4,c4,S,rfl,hS4,hown,hat,hb4⟩;have hb4':Below w3.heap.size w3 w4:=Below.trans (b:=w3.drew) ⟨rfl,rfl,rfl,Nat.le_refl _,fun _ _=>rfl⟩ hb4
 have hat':AttrsOf X w3.drew w3.drew.heap.size S:=fun s hs=>⟨(hat s hs).1.more (Nat.le_trans hN HB3D.out.size),(hat s hs).2⟩
 have hT4:=TreeR.of hown hat' hb4 hS4 (fun b hb=>HXN.out b (Nat.le_trans HB3D.out.size hb))
 have hsl:=congrArg List.length hS4
 rw [List.length_map] at hsl;obtain ⟨L',hL'⟩:∃ L',Hid (namedL next l 0=L'):=⟨_,rfl⟩
 rw [hL'.out] at hsl hT4;have HT4:=Lib.hid hT4
 have HX4:Hid (w4.heap[w.heap.size]? = some (.cells (treeV A L.length c next) 27 (0,0))):=(hb4'.block w.heap.size (by have:=HZ3.out;omega)).trans HX3.out
 have HY4:Hid (w4.heap[w.heap.size+1]? = some (.cells zeroT 27 (0,0))):=(hb4'.block (w.heap.size+1) (by have:=HZ3.out;omega)).trans HY3.out
 have HB4:Hid (Below w.heap.size w w4):=HB3.out.trans (hb4'.mono HB3.out.size)
 have hS4':Hid (w4.cell? ⟨w.heap.size,0,none⟩=some (.slice A L.length c)∧w4.cell? ⟨w.heap.size,1,none⟩=some (.int .i64 next)):=⟨zAA HX4.out 0 _ rfl,zAA HX4.out 1 _ rfl⟩
 rw [hsl];clear hown hat hat' hb4 hb4' hS4 hsl hT4
 go_wp2_with fail;refine hK.out _ _ (hS4'.out) (fun hHeld=>?_)
 clear hK K
 try go_frame
 refine tkv 8 (h:=?_)
 refine rdy 11 (fun K hK=>?_)
 refine zAb rfl 27 (.tmp 4) (.tmp 33) rfl (w.heap.size+1) (treeV A4 L'.length c4 (next+(l.length:Int))) rfl rfl 27 zeroT HY4.out (by kernel_rfl) rfl (zBq _ _ _ _) ?_
 obtain ⟨q1,q2⟩:=HT4.out.laid HB4.out (g:=w.heap.size+1) (by omega) HY4.out (treeV A4 L'.length c4 (next+(l.length:Int)))
 have HQ1:=Lib.hid q1
 have HQ2:=Lib.hid q2
 obtain ⟨w5,hw5⟩:∃ w5,Hid (w4.setRow (w.heap.size+1) (treeV A4 L'.length c4 (next+(l.length:Int)))=w5):=⟨_,rfl⟩
 have hx5:w5.heap[w.heap.size]? = some (.cells (treeV A L.length c next) 27 (0,0)):=by rw [← hw5.out,setRow_other _ _ _ _ (by omega)];exact HX4.out
 have HY5:Hid (w5.heap[w.heap.size+1]? = some (.cells (treeV A4 L'.length c4 (next+(l.length:Int))) 27 (0,0))):=by show _=_;rw [← hw5.out];exact setRow_heap _ _ _ _ _ _ HY4.out
 have hS5:Hid (w5.cell? ⟨w.heap.size,0,none⟩=some (.slice A L.length c)∧w5.cell? ⟨w.heap.size,1,none⟩=some (.int .i64 next)):=⟨zAA hx5 0 _ rfl,zAA hx5 1 _ rfl⟩
 rw [hw5.out] at HQ1 HQ2 ⊢;clear hx5 q1 q2;refine hK.out _ _ (hS5.out) (fun hHeld=>?_)
 clear hK K
 try go_frame
 refine tkv 12 (h:=tkv 13 (h:=?_))
 refine wpAnyH_done (by kernel_rfl) ?_ _
 go_wp2_with fail;refine bodyPost_ret (zBw Tryz.results32 _ _ (w.heap.size+1) 27 (treeV A4 L'.length c4 (next+(l.length:Int))) (0,0) _ rfl HY5.out Tryz.underlying27 rfl (by kernel_rfl)) rfl ?_
 rw [HE.out,hL'.out];exact ⟨A4,c4,rfl,HQ1.out,HQ2.out⟩
end
section
open Go.RowKit Go.Shelf
variable {X:Nat→Prop}
theorem zKb (w:World):Calls Tryz.prog 31 #[] w fun er w'=>er=.returned (.agg (treeV none 0 0 1))∧Below w.heap.size w w':=by
 obtain ⟨W1,hW1⟩:∃ W1,Hid (W1=w.alloc (.cells #[.slice none 0 0,.int .i64 0] 27)):=⟨_,rfl⟩
 have hb1:Below w.heap.size w W1:=by rw [hW1.out];exact (Below.refl _ w).alloc (Nat.le_refl _) _
 have HY1:Hid (W1.heap[w.heap.size]? = some (.cells zeroT 27 (0,0))):=by show _=_;rw [hW1.out];exact heap_alloc_new w _
 go_enter Tryz.func31,Tryz.ntmps31
 go_upto_region 1 with (fail)
 rw [← hW1.out]
 go_wp2_with (refine wpList_store_row rfl 27 (.tmp 0) (.tmp 1) rfl w.heap.size (treeV none 0 0 1) rfl rfl 27 zeroT HY1.out (by kernel_rfl) rfl (zBq _ _ _ _) ?_)
 try simp only [Exit.inBlock,Exit.then]
 refine bodyPost_ret (results_cell_row Tryz.results31 _ _ w.heap.size 27 (treeV none 0 0 1) (0,0) _ rfl (setRow_heap _ _ _ _ _ _ HY1.out) Tryz.underlying27 rfl (by kernel_rfl)) rfl ?_
 exact ⟨rfl,⟨hb1.os,hb1.tape,hb1.output,by rw [setRow_size];exact hb1.size,fun b hb=>(setRow_other _ _ _ _ (by omega)).trans (hb1.block b hb)⟩⟩
end
section
open Go.RowKit Go.Shelf
def kl (g:Int→Option Ent) (x:Int):Nat:=match g x with
 | some e=>e.kids.length
 | none=>0
def kidSum (g:Int→Option Ent) (l:List Int):Nat:=(l.map (kl g)).sum
section
variable {M:Nat→Prop} {t:Nat} {f:Fo} {next:Int} {w w':World}
theorem zMQ (h:TreeM M t f next w) {id:Int} {e:Ent} (he:f.ent 0 id=some e):Calls Tryz.prog 19 #[.pointer (some ⟨t,0,none⟩),.int .i64 id] w fun er w'=>∃ A c,er=.returned (.tuple #[.agg (nodeR id e (.slice A e.d.attrs.length c)),.bool true])∧AttrsOwn w' w.heap.size A c e.d.attrs∧Below w.heap.size w w':=by
 obtain ⟨_,_,h,hi,_⟩:=h
 exact zLk h (hi.wf _ _ he) he (by have:=hi.attrs _ _ he;omega) (by have:=hi.kidsN _ _ he;omega)
theorem zLj (h:TreeM M t f next w) {id:Int} (hw:wfI id) (he:f.ent 0 id=none):Calls Tryz.prog 19 #[.pointer (some ⟨t,0,none⟩),.int .i64 id] w fun e w'=>e=.returned (.tuple #[.agg nodeZ,.bool false])∧Below w.heap.size w w':=by
 obtain ⟨_,_,h,hi,_⟩:=h
 exact zMR h hw he
theorem zMS (h:TreeM M t f next w) {id:Int} {e:Ent} (he:f.ent 0 id=some e) (k:Nat) (x:Int) (hk:e.kids[k]? = some x):Calls Tryz.prog 42 #[.pointer (some ⟨t,0,none⟩),.int .i64 id,.int .i64 (k:Int)] w fun er w'=>er=.returned (.tuple #[.int .i64 x,.bool true])∧w=w':=by
 obtain ⟨_,_,h,hi,_⟩:=h
 exact zLl h k x (hi.wf _ _ he) he hk
end
end
section
open Go.RowKit Go.Shelf
theorem zHs {x:List UInt8} (h:nameL x=true):x.length≤60:=by
 unfold nameL at h
 split at h
 ·simp only [Bool.and_eq_true,decide_eq_true_eq] at h
  exact h.1
 ·cases h
theorem zGD {x:List UInt8} (h:charsE x=0):x.length≤1500:=by
 unfold charsE at h
 split at h
 ·cases h
 ·split at h
  ·cases h
  ·omega
theorem zJ1 {x:ItemD} (h:partsE x=0) (hl:0≤x.level∧x.level<40):SmallItem x:=by
 have hk:x.kind=1∨x.kind=2:=by
  unfold partsE at h
  split at h
  ·rename_i h1;exact .inr h1.1
  ·split at h
   ·cases h
   ·rename_i h1
    left
    exact Decidable.byContradiction fun h2=>h1 (.inl h2)
 rcases hk with hk | hk
 ·obtain ⟨p1,p2,p3,p4,p5,p6⟩:=(zIj hk).1 h
  refine ⟨by have:=zHs p2;omega,by rw [p1];simp,by omega,fun k a ha=>?_,by omega,by omega⟩
  have hm:=List.mem_of_getElem? ha
  exact ⟨by have:=zHs (p4 a hm);omega,by have:=zGD (p6 a hm);omega⟩
 ·obtain ⟨p1,p2,p3⟩:=(zIk hk).1 h
  refine ⟨by rw [p1];simp,by have:=zGD p3;omega,by rw [p2];simp,fun k a ha=>?_,by omega,by omega⟩
  rw [p2] at ha;simp at ha
section
variable {M:Nat→Prop} {t:Nat} {f:Fo} {next:Int} {w w':World}
def ParK (f:Fo) (e:Ent) (id:Int) (K:List Int):Prop:=(e.par=0∧id=rootF f∧K=[])∨(e.par≠0∧id≠rootF f ∧ ∃ pe,f.ent 0 e.par=some pe∧K=pe.kids∧K.count id=1)
end
end
section
theorem InvF.lv {f:Fo} {next:Int} (h:InvF f next):∀ r∈f.flat 0,-1000≤r.x.level∧r.x.level≤1000:=fun r hr=>by
 have h1:=(h.ok r hr).1
 have h2:=Fo.flat_ge f 0 r hr
 omega
theorem InvF.rows {f:Fo} {next:Int} (h:InvF f next):SmallRows (f.flat 0):=by
 refine ⟨by rw [Fo.flat_len];have:=h.cnt;omega,fun r hr=>?_⟩
 obtain ⟨h1,h2⟩:=h.ok r hr
 have h3:=Fo.flat_ge f 0 r hr
 have h5:=zCb h2
 obtain ⟨q1,q2,q3,_,_⟩:=zJ1 h2 ⟨h3,h1⟩
 exact ⟨by omega,by omega,q1,q2⟩
theorem InvF.len {f:Fo} {next:Int} (h:InvF f next):(f.flat 0).length≤1000:=by rw [Fo.flat_len];exact h.cnt
theorem zKm {l:List ItemD} (h:(checkL l).2=0):∀ x∈l,-1000000≤x.level∧x.level≤1000000:=fun z hz=>by
 obtain ⟨x,r,rfl,h0,_,_,h1,h2,_⟩:=(zDe l).1 h
 have h3:=(h2 z hz).1
 rcases List.mem_cons.1 hz with rfl | h
 ·omega
 ·have:=h1 z h;omega
end
section
open Go.RowKit Go.Shelf
theorem zEP {P:Program} {fn:Func} {p u:Tmp} {ty:TypeId} (h:fn.results=#[.tmp u,.cell p ty]) (tmps:Array Value) (w:World) (g:Nat) (t:TypeId) (cs:Array Value) (fr:Nat × Nat) (d:TypeDesc)
  (hp:tmps.getD p undef=.pointer (some ⟨g,0,none⟩)) (hg:w.heap[g]? = some (.cells cs t fr))
  (hu:P.underlying ty=some d) (hd:(match d with | .struct _ | .array _ _=>true | _=>false)=true) (hi:(P.info? ty).map (·.size)=some cs.size) :
  (results fn tmps).run P w=.ok (.tuple #[tmps.getD u undef,.agg cs]) w:=by
 have hp':tmps[p]?.getD undef=.pointer (some ⟨g,0,none⟩):=by simpa using hp
 simp [results,h,hp',asAddr,Result.andThen,run_loadVar_row w g t ty cs fr d hg hu hd hi]
theorem zLm {M:Nat→Prop} {t:Nat} {f:Fo} {next:Int} {w:World} (h:TreeM M t f next w) (l:List ItemD) (A:Option Addr) (c N:Nat) (hl:ItemsAt w N A l) (hM:∀ b,M b→N≤b) (hN:N≤w.heap.size) (hs:SmallItems l) :
  Calls Tryz.prog 26 #[.pointer (some ⟨t,0,none⟩),.slice A l.length c] w (DoIn M t w (loadL (f.flat 0) next l)):=by
 obtain ⟨mb,y,h,hi,hm,_⟩:=h
 refine (zMT h hi l A c N (StandI.of hl (fun b hb=>hM b (hm b hb)) hN) hN hs).mono ?_
 rintro er w' ⟨rfl,hp⟩;exact ⟨rfl,hp.toM hm⟩
def GrownP (w:World) (l:List ItemD) (e:Ending) (w':World):Prop :=
 ∃ (M:Nat→Prop) (t:Nat) (f:Fo) (next:Int) (A:Option Addr) (c:Nat),e=.returned (.tuple #[.pointer (some ⟨t,0,none⟩),.agg #[.slice A (f.flat 0).length c,.int .i64 next]])∧TreeM M t f next w'∧TreeR (fun _=>True) w' A c (f.flat 0) ∧
  f.flat 0=(loadL [] 1 l).1∧Below w.heap.size w w' ∧ ∀ b,M b→w.heap.size≤b
theorem zGI (l:List ItemD) (A:Option Addr) (c:Nat) (w:World) (hI:ItemsAt w w.heap.size A l) (hs:SmallItems l) (hln:l.length≤2000000):Calls Tryz.prog 10 #[.slice A l.length c] w (GrownP w l):=by
 have HI:=Lib.hid hI
 have HS:=Lib.hid hs
 clear hI hs
 go_enter Tryz.func10,Tryz.ntmps10
 go_wp2_with fail;obtain ⟨w1,hw1⟩:∃ w1,Hid (w.alloc (.cells #[.slice none 0 0,.int .i64 0] 27)=w1):=⟨_,rfl⟩
 have HZ1:Hid (w1.heap[w.heap.size]? = some (.cells zeroT 27 (0,0))):=by show _=_;rw [← hw1.out];exact heap_alloc_new w _
 have HB1:Hid (Below w.heap.size w w1):=by rw [← hw1.out];exact (Below.refl _ w).alloc (Nat.le_refl _) _
 have HN1:Hid (w.heap.size<w1.heap.size):=(Array.getElem?_eq_some_iff.1 HZ1.out).1
 rw [hw1.out];refine (zMU w1).mono ?_
 rintro e w2 ⟨rfl,hb2,ht2⟩;have HB2:=Lib.hid (HB1.out.trans (hb2.mono HB1.out.size))
 have HT2:=Lib.hid ht2
 have HZ2:Hid (w2.heap[w.heap.size]? = some (.cells zeroT 27 (0,0))):=(hb2.block _ HN1.out).trans HZ1.out
 clear hb2 ht2
 go_wp2_with fail;refine (zKb w2).mono ?_
 rintro e w3 ⟨rfl,hb3⟩;have HB3:=Lib.hid (HB2.out.trans (hb3.mono HB2.out.size))
 have HT3:=Lib.hid (HT2.out.below hb3)
 have HZ3:Hid (w3.heap[w.heap.size]? = some (.cells zeroT 27 (0,0))):=(hb3.block _ (Array.getElem?_eq_some_iff.1 HZ2.out).1).trans HZ2.out
 clear hb3;unfold treeV
 go_wp2_with fail;obtain ⟨w4,hw4⟩:∃ w4,Hid (w3.alloc (.cells #[.slice none 0 0,.int .i64 1] 27)=w4):=⟨_,rfl⟩
 obtain ⟨rb,hrb⟩:∃ rb,Hid (w3.heap.size=rb):=⟨_,rfl⟩
 have hb4:Below w3.heap.size w3 w4:=by rw [← hw4.out];exact (Below.refl _ w3).alloc (Nat.le_refl _) _
 have HX4:Hid (w4.heap[rb]? = some (.cells (treeV none 0 0 1) 27 (0,0))):=by show _=_;rw [← hw4.out,← hrb.out];exact heap_alloc_new w3 _
 have HB4:=Lib.hid (HB3.out.trans (hb4.mono HB3.out.size))
 have HT4:=Lib.hid (HT3.out.below hb4)
 have HZ4:Hid (w4.heap[w.heap.size]? = some (.cells zeroT 27 (0,0))):=(hb4.block _ (Array.getElem?_eq_some_iff.1 HZ3.out).1).trans HZ3.out
 have HRB:Hid (w1.heap.size+1<rb):=by rw [← hrb.out];exact HT3.out.lt (.inl rfl)
 clear hb4;rw [hw4.out];refine (zLm HT4.out l A c w.heap.size (HI.out.below HB4.out) (fun b hb=>by have:=HN1.out;rcases hb with rfl | rfl <;> omega) HB4.out.size HS.out).mono ?_
 rintro e w5 ⟨rfl,M5,f5,hf5,ht5,hg5⟩;obtain ⟨a,ha⟩:∃ a,Hid (loadL [] 1 l=a):=⟨_,rfl⟩
 rw [show loadL (Fo.flat 0 .nil) 1 l=a from ha.out] at hf5 ht5 ⊢
 have HF5:=Lib.hid hf5
 have HT5:=Lib.hid ht5
 have hlow5:=hg5.low (N:=w.heap.size) (fun b hb=>by have:=HN1.out;rcases hb with rfl | rfl <;> omega) HB4.out.size
 have HLOW:=Lib.hid hlow5
 have HX5:Hid (w5.heap[rb]? = some (.cells (treeV none 0 0 1) 27 (0,0))):=(hg5.1.block _ (Array.getElem?_eq_some_iff.1 HX4.out).1 (fun h=>by have:=HRB.out;rcases h with h | h <;> omega)).trans HX4.out
 have HZ5:Hid (w5.heap[w.heap.size]? = some (.cells zeroT 27 (0,0))):=(hg5.1.block _ (Array.getElem?_eq_some_iff.1 HZ4.out).1 (fun h=>by have:=HN1.out;rcases h with h | h <;> omega)).trans HZ4.out
 have HB5:Hid (Below w.heap.size w w5):=HB4.out.trans (hg5.1.below (fun b hb=>by have:=HN1.out;rcases hb with rfl | rfl <;> omega) HB4.out.size)
 have HNR:Hid (¬ M5 rb):=fun h=>by
  have:=HRB.out
  rcases hg5.2 rb h with h | h
  ·rcases h with h | h <;> omega
  ·have:=(Array.getElem?_eq_some_iff.1 HX4.out).1;omega
 have HNZ:Hid (¬ M5 w.heap.size):=fun h=>by
  have:=HN1.out
  rcases hg5.2 _ h with h | h
  ·rcases h with h | h <;> omega
  ·have:=(Array.getElem?_eq_some_iff.1 HZ4.out).1;omega
 have x0:w5.cell? ⟨rb,0,none⟩=some (.slice none 0 0):=zAA HX5.out 0 _ rfl
 have x1:w5.cell? ⟨rb,1,none⟩=some (.int .i64 1):=zAA HX5.out 1 _ rfl
 clear hf5 ht5 hg5 hlow5;rw [hrb.out]
 go_wp2_with fail;refine (zI3 (X:=fun _=>True) [] none 0 1 l A c w5 ⟨fun h=>absurd h (by simp),by simp [SliceOk,maxLen]⟩ w.heap.size (HI.out.below HB5.out) HB5.out.size (fun _ _=>trivial) (fun _ _=>trivial) HS.out hln (fun h=>zKm h) (by decide)).mono ?_
 rw [ha.out];rintro e w6 ⟨A6,c6,rfl,hr6,hb6⟩;have HB6:=Lib.hid (HB5.out.trans (hb6.mono HB5.out.size))
 have HT6:=Lib.hid (HT5.out.below hb6)
 have HX6:Hid (w6.heap[rb]? = some (.cells (treeV none 0 0 1) 27 (0,0))):=(hb6.block _ (Array.getElem?_eq_some_iff.1 HX5.out).1).trans HX5.out
 have HZ6:Hid (w6.heap[w.heap.size]? = some (.cells zeroT 27 (0,0))):=(hb6.block _ (Array.getElem?_eq_some_iff.1 HZ5.out).1).trans HZ5.out
 have HR6:=Lib.hid hr6
 clear hb6 hr6 x0 x1
 go_upto_region 7 with (refine wpList_store_row rfl 27 (.tmp 5) (.tmp 18) rfl rb (treeV A6 a.1.length c6 a.2.1) rfl rfl 27 (treeV none 0 0 1) HX6.out (by kernel_rfl) rfl (zBq _ _ _ _) ?_)
 obtain ⟨w7,hw7⟩:∃ w7,Hid (w6.setRow rb (treeV A6 a.1.length c6 a.2.1)=w7):=⟨_,rfl⟩
 have HX7:Hid (w7.heap[rb]? = some (.cells (treeV A6 a.1.length c6 a.2.1) 27 (0,0))):=by show _=_;rw [← hw7.out];exact setRow_heap _ _ _ _ _ _ HX6.out
 have hrbw:w.heap.size<rb:=by have:=HN1.out;have:=HRB.out;omega
 have HZ7:Hid (w7.heap[w.heap.size]? = some (.cells zeroT 27 (0,0))):=by show _=_;rw [← hw7.out];exact (setRow_other _ _ _ _ (by omega)).trans HZ6.out
 have HB7:Hid (Below w.heap.size w w7):=by
  have h6:=HB6.out
  show Below _ _ _
  rw [← hw7.out];exact ⟨h6.os,h6.tape,h6.output,by rw [setRow_size];exact h6.size,fun b hb=>(setRow_other _ _ _ _ (by omega)).trans (h6.block b hb)⟩
 have HT7:Hid (TreeM M5 (w1.heap.size+1) f5 a.2.1 w7):=by
  show TreeM _ _ _ _ _
  rw [← hw7.out];exact HT6.out.turn (M':=fun b=>b=rb) ⟨rfl,rfl,rfl,by rw [setRow_size];exact Nat.le_refl _,fun b _ hne=>setRow_other _ _ _ _ hne⟩ (fun b hb e=>HNR.out (e ▸ hb))
 have HR7:Hid (TreeR (fun _=>True) w7 A6 c6 a.1):=by
  show TreeR _ _ _ _ _
  rw [← hw7.out];refine ⟨?_,HR6.out.2⟩
  rw [setRow_size];exact HR6.out.1.setRow HX6.out (zLZ _ _ _ _) _
 have hbd:Below w7.heap.size w7 w7.drew:=⟨rfl,rfl,rfl,Nat.le_refl _,fun _ _=>rfl⟩
 have HB8:=Lib.hid (HB7.out.trans (hbd.mono HB7.out.size))
 have HT8:=Lib.hid (HT7.out.below hbd)
 have HR8:=Lib.hid (HR7.out.below hbd)
 have HZ8:Hid (w7.drew.heap[w.heap.size]? = some (.cells zeroT 27 (0,0))):=HZ7.out
 clear hbd hrbw
 go_frame
 rw [hw7.out];have hS:w7.drew.cell? ⟨rb,0,none⟩=some (.slice A6 a.1.length c6)∧w7.drew.cell? ⟨rb,1,none⟩=some (.int .i64 a.2.1):=⟨zAA HX7.out 0 _ rfl,zAA HX7.out 1 _ rfl⟩
 refine wp_region_held_drew (S:=fun V=>V.cell? ⟨rb,0,none⟩=some (.slice A6 a.1.length c6)∧V.cell? ⟨rb,1,none⟩=some (.int .i64 a.2.1)) (by kernel_rfl) hS (fun hHeld=>?_)
 clear hS;refine tkv 0 (h:=tkv 1 (h:=tkv 2 (h:=?_)))
 refine rdy 3 (fun K hK=>?_)
 refine zAb rfl 27 (.tmp 3) (.tmp 22) rfl w.heap.size (treeV A6 a.1.length c6 a.2.1) rfl rfl 27 zeroT HZ8.out (by kernel_rfl) rfl (zBq _ _ _ _) ?_
 obtain ⟨q1,q2⟩:=HR8.out.laid HB8.out (g:=w.heap.size) (Nat.le_refl _) HZ8.out (treeV A6 a.1.length c6 a.2.1)
 have HQ1:=Lib.hid q1
 have HQ2:=Lib.hid q2
 obtain ⟨w9,hw9⟩:∃ w9,Hid (w7.drew.setRow w.heap.size (treeV A6 a.1.length c6 a.2.1)=w9):=⟨_,rfl⟩
 have HZ9:Hid (w9.heap[w.heap.size]? = some (.cells (treeV A6 a.1.length c6 a.2.1) 27 (0,0))):=by show _=_;rw [← hw9.out];exact setRow_heap _ _ _ _ _ _ HZ8.out
 have hx9:w9.heap[rb]? = some (.cells (treeV A6 a.1.length c6 a.2.1) 27 (0,0)):=by rw [← hw9.out];exact (setRow_other _ _ _ _ (by have:=HN1.out;have:=HRB.out;omega)).trans HX7.out
 have HT9:Hid (TreeM M5 (w1.heap.size+1) f5 a.2.1 w9):=by
  show TreeM _ _ _ _ _
  rw [← hw9.out];exact HT8.out.turn (M':=fun b=>b=w.heap.size) ⟨rfl,rfl,rfl,by rw [setRow_size];exact Nat.le_refl _,fun b _ hne=>setRow_other _ _ _ _ hne⟩ (fun b hb e=>HNZ.out (e ▸ hb))
 have hS5:Hid (w9.cell? ⟨rb,0,none⟩=some (.slice A6 a.1.length c6)∧w9.cell? ⟨rb,1,none⟩=some (.int .i64 a.2.1)):=⟨zAA hx9 0 _ rfl,zAA hx9 1 _ rfl⟩
 rw [hw9.out] at HQ1 HQ2 ⊢;clear hx9 q1 q2;refine hK.out _ _ (hS5.out) (fun hHeld=>?_)
 clear hK K
 try go_frame
 refine wpAnyH_done (by kernel_rfl) ?_ _
 clear hHeld
 go_wp2_with fail;refine bodyPost_ret (zEP Tryz.results10 _ _ w.heap.size 27 (treeV A6 a.1.length c6 a.2.1) (0,0) _ rfl HZ9.out Tryz.underlying27 rfl (by kernel_rfl)) rfl ?_
 refine ⟨M5,w1.heap.size+1,f5,a.2.1,A6,c6,?_,HT9.out,?_,?_,HQ2.out,HLOW.out⟩
 ·rw [← HF5.out];rfl
 ·rw [← HF5.out];exact HQ1.out
 ·rw [ha.out];exact HF5.out.symm
end
section
def escT (t:List UInt8):List UInt8:=(escL false t).getD []
def escV (t:List UInt8):List UInt8:=(escL true t).getD []
def attrT (a:AttrD):List UInt8:=[32]++a.name++[61,34]++escV a.value++[34]
def tagL (x:ItemD):List UInt8:=[60]++x.name++x.attrs.flatMap attrT
def kidsOf (c:Int) (r:List ItemD):List ItemD:=r.takeWhile fun y=>decide (c<y.level)
def pastOf (c:Int) (r:List ItemD):List ItemD:=r.dropWhile fun y=>decide (c<y.level)
theorem zD2 (c:Int) (r:List ItemD):kidsOf c r++pastOf c r=r:=List.takeWhile_append_dropWhile
theorem zGO (c:Int) (r:List ItemD):(kidsOf c r).length≤r.length:=by
 have:=congrArg List.length (zD2 c r)
 rw [List.length_append] at this;omega
theorem zGe (c:Int) (r:List ItemD):(pastOf c r).length≤r.length:=by
 have:=congrArg List.length (zD2 c r)
 rw [List.length_append] at this;omega
theorem zFZ (c:Int):∀ (r:List ItemD),∀ y∈kidsOf c r,c<y.level
 | [],y,h=>by cases h
 | x :: r,y,h=>by
  unfold kidsOf at h;rw [List.takeWhile_cons] at h
  split at h
  ·rename_i hx
   rcases List.mem_cons.1 h with rfl | h
   ·exact of_decide_eq_true hx
   ·exact zFZ c r y h
  ·cases h
theorem zGf (c:Int):∀ (r:List ItemD) (y:ItemD) (s:List ItemD),pastOf c r=y :: s→y.level≤c
 | [],y,s,h=>by cases h
 | x :: r,y,s,h=>by
  unfold pastOf at h;rw [List.dropWhile_cons] at h
  split at h
  ·exact zGf c r y s h
  ·rename_i hx
   injection h with h1 _
   subst h1;have:=of_decide_eq_false (by simpa using hx:decide (c<x.level)=false)
   omega
def nodeL (x:ItemD) (kids:List ItemD) (inner:List UInt8):List UInt8 :=
 if x.kind=2 then escT x.text else if kids=[] then tagL x++[47,62] else tagL x++[62]++inner++([60,47]++x.name++[62])
def pr:List ItemD→List UInt8
 | []=>[]
 | x :: r=>nodeL x (kidsOf x.level r) (pr (kidsOf x.level r))++pr (pastOf x.level r)
termination_by l=>l.length
decreasing_by
 ·have:=zGO x.level r;simp;omega
 ·have:=zGe x.level r;simp;omega
theorem zJ4:pr []=[]:=by rw [pr]
theorem zJ3 (x:ItemD) (r:List ItemD):pr (x :: r)=nodeL x (kidsOf x.level r) (pr (kidsOf x.level r))++pr (pastOf x.level r):=by rw [pr]
def nodeAt (l:List ItemD) (k:Nat):List UInt8:=match l.drop k with
 | []=>[]
 | x :: r=>nodeL x (kidsOf x.level r) (pr (kidsOf x.level r))
def endN (l:List ItemD) (k:Nat):Nat:=match l.drop k with
 | []=>0
 | x :: r=>k+1+(kidsOf x.level r).length
def printL (l:List ItemD):List UInt8 × Int:=if (checkL l).2=0 then (nodeAt (normalL l) 0,0) else ([],(checkL l).2)
end
section
/-! What was checked. -/
structure Doc (l:List ItemD):Prop where
 ne:l≠[]
 one:∀ (k:Nat) (x:ItemD),l[k]? = some x→oneE (prevOf l k) k x=0
theorem Doc.first {l:List ItemD} (h:Doc l):∃ x r,l=x :: r∧x.level=0∧x.kind=1:=by
 cases l with
 | nil=>exact absurd rfl h.ne
 | cons x r =>
  refine ⟨x,r,rfl,?_⟩
  have h0:=(zCA (h.one 0 x rfl)).1
  have:prevOf (x :: r) 0=none:=rfl
  rw [this] at h0;unfold placeE at h0;simp only at h0
  split at h0
  ·omega
  ·omega
theorem Doc.many {l:List ItemD} (h:Doc l):l.length≤1000:=by
 rcases Nat.lt_or_ge 1000 l.length with hl | hl
 ·have hx:l[1000]? = some l[1000]:=List.getElem?_eq_getElem hl
  have h0:=(zCA (h.one 1000 _ hx)).1
  have hp:prevOf l 1000=some (l[999]'(by omega)):=by unfold prevOf;rw [if_neg (by omega)];exact List.getElem?_eq_getElem (by omega)
  rw [hp] at h0;unfold placeE at h0;simp only at h0
  split at h0
  ·omega
  split at h0
  ·omega
  ·omega
 ·exact hl
def cap (x:ItemD):Int:=if x.kind=2 then x.level else x.level+1
def capC:Int→List ItemD→Prop
 | _,[]=>True
 | c,x :: r=>x.level≤c∧capC (cap x) r
theorem Doc.step {l:List ItemD} (h:Doc l) {k:Nat} {p x:ItemD} (hp:l[k]? = some p) (hx:l[k+1]? = some x):1≤x.level∧x.level≤cap p:=by
 have h0:=(zCA (h.one (k+1) x hx)).1
 have e:prevOf l (k+1)=some p:=zBv hp
 rw [e] at h0;unfold placeE at h0;simp only at h0
 unfold cap
 split at h0
 ·omega
 ·split <;> omega
theorem zLw {l:List ItemD} (hs:∀ (k:Nat) (p x:ItemD),l[k]? = some p→l[k+1]? = some x→x.level≤cap p):∀ (x:ItemD) (r:List ItemD),l=x :: r→capC x.level l:=by
 have key:∀ (r:List ItemD) (x:ItemD),(∀ (k:Nat) (p y:ItemD),(x :: r)[k]? = some p→(x :: r)[k+1]? = some y→y.level≤cap p)→capC (cap x) r:=by
  intro r
  induction r with
  | nil=>intro x _;trivial
  | cons y r ih =>
   intro x h;exact ⟨h 0 x y rfl rfl,ih y (fun k p z hp hz=>h (k+1) p z hp hz)⟩
 intro x r e;subst e;exact ⟨Int.le_refl _,key r x hs⟩
theorem Doc.cap {l:List ItemD} (h:Doc l):capC 0 l ∧ ∀ y∈l,0≤y.level:=by
 obtain ⟨x,r,rfl,hx0,_⟩:=h.first
 have:=zLw (fun k p y hp hy=>(h.step hp hy).2) x r rfl
 rw [hx0] at this;refine ⟨this,fun y hy=>?_⟩
 obtain ⟨k,hk⟩:=List.mem_iff_getElem?.1 hy
 exact (zCc (zCA (h.one k y hk)).1).1
theorem Doc.below {l:List ItemD} (h:Doc l) {x:ItemD} {r:List ItemD} (e:l=x :: r):∀ y∈r,1≤y.level:=by
 subst e;intro y hy;obtain ⟨k,hk⟩:=List.mem_iff_getElem?.1 hy
 have h1:(x :: r)[k+1]? = some y:=by simpa using hk
 have h2:∃ p,(x :: r)[k]? = some p:=⟨_,List.getElem?_eq_getElem (by have:=(List.getElem?_eq_some_iff.1 h1).1;omega)⟩
 obtain ⟨p,hp⟩:=h2
 exact (h.step hp h1).1
/-! Made normal,item by item: the last one is held back. -/
def normP (p:ItemD):List ItemD→List ItemD
 | []=>[p]
 | x :: r=>if x.kind=2∧x.text=[] then normP p r
  else if x.kind=2∧p.kind=2∧p.level=x.level then normP { p with text:=p.text++x.text } r
  else p :: normP x r
theorem zCI:∀ (l out:List ItemD) (p:ItemD),l.foldl nstep (out++[p])=out++normP p l
 | [],out,p=>rfl
 | x :: l,out,p=>by
  have hl:(out++[p])[(out++[p]).length-1]? = some p:=by simp
  rw [List.foldl_cons];by_cases h1:x.kind=2∧x.text=[]
  ·rw [zId h1.1 h1.2,zCI l out p,normP,if_pos h1]
  ·by_cases h2:x.kind=2∧p.kind=2∧p.level=x.level
   ·have e:nstep (out++[p]) x=out++[{ p with text:=p.text++x.text }]:=by
     rw [zIb hl h2.1 (fun h=>h1 ⟨h2.1,h⟩) h2.2.1 h2.2.2]
     simp
    rw [e,zCI l out _,normP,if_neg h1,if_pos h2]
   ·rw [zIc hl h1 h2,zCI l (out++[p]) x,normP,if_neg h1,if_neg h2]
    simp
theorem zB9 {x:ItemD} {r:List ItemD} (h:x.kind=1):normalL (x :: r)=normP x r:=by
 unfold normalL;rw [List.foldl_cons,zHG (by rw [h];simp)]
 exact zCI r [] x
theorem zCx:∀ (r:List ItemD) (p:ItemD) (c c':Int),p.level≤c→c'≤cap p→capC c' r→capC c (normP p r)
 | [],p,c,c',h,_,_=>⟨h,trivial⟩
 | x :: r,p,c,c',h,h',hr=>by
  unfold normP
  split
  ·rename_i h1
   refine zCx r p c (cap x) h ?_ hr.2
   have:cap x=x.level:=by unfold cap;rw [if_pos h1.1]
   have:=hr.1
   omega
  ·split
   ·rename_i h2
    refine zCx r _ c (cap x) h ?_ hr.2
    show cap x≤cap { p with text:=_ }
    unfold cap;rw [if_pos h2.1];show x.level≤(if p.kind=2 then p.level else p.level+1)
    rw [if_pos h2.2.1];omega
   ·exact ⟨h,zCx r x (cap p) (cap x) (by have:=hr.1;omega) (Int.le_refl _) hr.2⟩
theorem zCy (P:Int→Prop):∀ (r:List ItemD) (p:ItemD),P p.level→(∀ y∈r,P y.level) → ∀ y∈normP p r,P y.level
 | [],p,hp,_,y,hy=>by simp [normP] at hy;subst hy;exact hp
 | x :: r,p,hp,hr,y,hy=>by
  unfold normP at hy
  split at hy
  ·exact zCy P r p hp (fun z hz=>hr z (by simp [hz])) y hy
  ·split at hy
   ·exact zCy P r { p with text:=p.text++x.text } hp (fun z hz=>hr z (by simp [hz])) y hy
   ·rcases List.mem_cons.1 hy with rfl | hy
    ·exact hp
    ·exact zCy P r x (hr x (by simp)) (fun z hz=>hr z (by simp [hz])) y hy
theorem zEy:∀ (r:List ItemD) (p:ItemD),p.kind=1 → ∃ s,normP p r=p :: s ∧ ∀ (P:Int→Prop),(∀ y∈r,P y.level) → ∀ y∈s,P y.level
 | [],p,_=>⟨[],rfl,fun _ _ _ h=>by cases h⟩
 | x :: r,p,hp=>by
  unfold normP
  split
  ·obtain ⟨s,h1,h2⟩:=zEy r p hp
   exact ⟨s,h1,fun P hP=>h2 P (fun z hz=>hP z (by simp [hz]))⟩
  ·rw [if_neg (by rw [hp];simp)]
   exact ⟨_,rfl,fun P hP=>zCy P r x (hP x (by simp)) (fun z hz=>hP z (by simp [hz]))⟩
structure Shape (N:List ItemD) (x:ItemD) (s:List ItemD):Prop where
 eq:N=x :: s
 level:x.level=0
 kind:x.kind=1
 cap:capC 0 N
 zero:∀ y∈N,0≤y.level
 past:∀ y∈s,1≤y.level
theorem Doc.normal {l:List ItemD} (h:Doc l):∃ x s,Shape (normalL l) x s:=by
 obtain ⟨x,r,e,h0,h1⟩:=h.first
 have hc:=h.cap
 have hb:=h.below e
 subst e;obtain ⟨s,e2,h2⟩:=zEy r x h1
 refine ⟨x,s,by rw [zB9 h1];exact e2,h0,h1,?_,?_,h2 (1 ≤ ·) hb⟩
 ·rw [zB9 h1]
  exact zCx r x 0 (Go.Proofs.YtcombcoilpmnkaaGreat.cap x) (by omega) (Int.le_refl _) hc.1.2
 ·rw [zB9 h1,e2]
  intro y hy;rcases List.mem_cons.1 hy with rfl | hy
  ·omega
  ·have:=h2 (1 ≤ ·) hb y hy;omega
/-! The document's way to print: what is open is closed ahead of what is not in it. -/
def closeT (n:List UInt8):List UInt8:=[60,47]++n++[62]
def pops (L:Int):List (List UInt8)→List UInt8 × List (List UInt8)
 | []=>([],[])
 | n :: o=>if L<(o.length+1:Nat) then (closeT n++(pops L o).1,(pops L o).2) else ([],n :: o)
def leafB (x:ItemD):List ItemD→Bool
 | []=>true
 | y :: _=>decide (y.level≤x.level)
def mach:List (List UInt8)→List ItemD→List UInt8
 | o,[]=>o.flatMap closeT
 | o,x :: r=>(pops x.level o).1++(if x.kind=2 then escT x.text++mach (pops x.level o).2 r
   else if leafB x r then tagL x++[47,62]++mach (pops x.level o).2 r else tagL x++[62]++mach (x.name :: (pops x.level o).2) r)
theorem zED {L:Int} {o:List (List UInt8)} (h:(o.length:Int)≤L):pops L o=([],o):=by
 cases o with
 | nil=>rfl
 | cons n o=>unfold pops;rw [if_neg (by simp at h ⊢;omega)]
theorem zK2 {n:List UInt8} {o:List (List UInt8)} {s:List ItemD} (h:∀ y t,s=y :: t→y.level≤o.length):mach (n :: o) s=closeT n++mach o s:=by
 cases s with
 | nil=>rfl
 | cons y t =>
  have:=h y t rfl
  unfold mach;have e:pops y.level (n :: o)=(closeT n++(pops y.level o).1,(pops y.level o).2):=by
   rw [pops,if_pos (by simp;omega)]
  rw [e];simp
theorem zJp {o:List (List UInt8)} {x:ItemD} {r:List ItemD} (hl:(o.length:Int)≤x.level) (hk:x.kind=2):mach o (x :: r)=escT x.text++mach o r:=by
 rw [mach,zED hl,if_pos hk];rfl
theorem zJn {o:List (List UInt8)} {x:ItemD} {r:List ItemD} (hl:(o.length:Int)≤x.level) (hk:x.kind≠2) (h:leafB x r=true):mach o (x :: r)=tagL x++[47,62]++mach o r:=by
 rw [mach,zED hl,if_neg hk,if_pos h];rfl
theorem zJo {o:List (List UInt8)} {x:ItemD} {r:List ItemD} (hl:(o.length:Int)≤x.level) (hk:x.kind≠2) (h:leafB x r=false):mach o (x :: r)=tagL x++[62]++mach (x.name :: o) r:=by
 rw [mach,zED hl,if_neg hk,if_neg (by simp [h])];rfl
theorem zEl:∀ (a b:List ItemD) (c:Int),capC c (a++b)→capC c a ∧ ∃ c',capC c' b
 | [],b,c,h=>⟨trivial,c,h⟩
 | x :: a,b,c,h=>by
  obtain ⟨h1,c',h2⟩:=zEl a b (cap x) h.2
  exact ⟨⟨h.1,h1⟩,c',h2⟩
theorem zJK {c c':Int}:∀ {l:List ItemD},capC c l→(∀ y t,l=y :: t→y.level≤c')→capC c' l
 | [],_,_=>trivial
 | y :: t,h,h'=>⟨h' y t rfl,h.2⟩
theorem zK0 {c:Int} {r:List ItemD} (h:capC c r):kidsOf c r=[]∧pastOf c r=r:=by
 cases r with
 | nil=>exact ⟨rfl,rfl⟩
 | cons y r =>
  have:=h.1
  have hd:decide (c<y.level)=false:=by simp;omega
  constructor
  ·show List.takeWhile _ (y :: r)=[]
   rw [List.takeWhile_cons,hd];rfl
  ·show List.dropWhile _ (y :: r)=_
   rw [List.dropWhile_cons,hd];rfl
theorem zK3:∀ (n:Nat) (b:List ItemD) (o:List (List UInt8)) (rest:List ItemD),b.length≤n→(∀ y∈b,(o.length:Int)≤y.level)→capC o.length b→(∀ y t,rest=y :: t→y.level≤o.length)→mach o (b++rest)=pr b++mach o rest:=by
 intro n
 induction n with
 | zero =>
  intro b o rest hb _ _ _;have:b=[]:=List.eq_nil_of_length_eq_zero (by omega)
  subst this;rw [zJ4];rfl
 | succ n ih =>
  intro b o rest hb hlow hcap hrest;cases b with
  | nil=>rw [zJ4];rfl
  | cons x r =>
   have hx1:=hlow x (by simp)
   have hx2:=hcap.1
   have hxl:x.level=o.length:=by omega
   have hr:=hcap.2
   have hlr:∀ y∈r,(o.length:Int)≤y.level:=fun y hy=>hlow y (by simp [hy])
   have hbl:r.length≤n:=by simp at hb;omega
   rw [zJ3,List.cons_append];by_cases hk:x.kind=2
   ·have hcx:cap x=x.level:=by unfold cap;rw [if_pos hk]
    rw [hcx] at hr;obtain ⟨k1,k2⟩:=zK0 hr
    have hr':capC o.length r:=by rw [← hxl];exact hr
    rw [zJp hx1 hk,ih r o rest hbl hlr hr' hrest,k1,k2];have:nodeL x [] (pr [])=escT x.text:=by unfold nodeL;rw [if_pos hk]
    rw [this,List.append_assoc]
   ·have hcx:cap x=x.level+1:=by unfold cap;rw [if_neg hk]
    rw [hcx] at hr;have hsplit:=zD2 x.level r
    have hpast:∀ y t,pastOf x.level r=y :: t→y.level≤x.level:=fun y t h=>zGf x.level r y t h
    have hpr:∀ y t,pastOf x.level r++rest=y :: t→y.level≤(o.length:Int):=by
     intro y t h;cases hp:pastOf x.level r with
     | nil=>rw [hp] at h;exact hrest y t h
     | cons z s =>
      rw [hp] at h
      injection h with h1 _
      subst h1;have:=hpast z s hp
      omega
    rw [← hsplit] at hr;obtain ⟨hc1,c',hc2⟩:=zEl _ _ _ hr
    have hc2':capC o.length (pastOf x.level r):=zJK hc2 (fun y t h=>by have:=hpast y t h;omega)
    have hkl:=zGO x.level r
    have hpl:=zGe x.level r
    have hlp:∀ y∈pastOf x.level r,(o.length:Int)≤y.level:=fun y hy=>hlr y (by rw [← hsplit];simp [hy])
    by_cases hkn:kidsOf x.level r=[]
    ·have hleaf:leafB x (r++rest)=true:=by
      have e:r++rest=pastOf x.level r++rest:=by
       conv=>lhs;rw [← hsplit]
       rw [hkn];rfl
      rw [e];cases hp:pastOf x.level r++rest with
      | nil=>rfl
      | cons y t=>have:=hpr y t hp;show decide _=true;simp;omega
     have e:r=pastOf x.level r:=by
      conv=>lhs;rw [← hsplit]
      rw [hkn];rfl
     rw [zJn hx1 hk hleaf,hkn];have:nodeL x [] (pr [])=tagL x++[47,62]:=by unfold nodeL;rw [if_neg hk,if_pos rfl]
     rw [this]
     conv=>lhs;rw [e]
     rw [ih _ o rest (by omega) hlp hc2' hrest]
     simp
    ·obtain ⟨y,t,hyt⟩:=List.exists_cons_of_ne_nil hkn
     have hyl:x.level<y.level:=zFZ x.level r y (by rw [hyt];simp)
     have hleaf:leafB x (r++rest)=false:=by
      have e:r++rest=y :: (t++(pastOf x.level r++rest)):=by
       conv=>lhs;rw [← hsplit]
       rw [hyt];simp
      rw [e];show decide _=false
      simp;omega
     rw [zJo hx1 hk hleaf];have e:r++rest=kidsOf x.level r++(pastOf x.level r++rest):=by
      conv=>lhs;rw [← hsplit]
      rw [List.append_assoc]
     have hcl:((x.name :: o).length:Int)=x.level+1:=by simp;omega
     rw [e,ih (kidsOf x.level r) (x.name :: o) (pastOf x.level r++rest) (by omega)
      (fun z hz=>by have:=zFZ x.level r z hz;omega) (by rw [hcl];exact hc1)
      (fun z u h=>by have:=hpr z u h;omega)]
     rw [zK2 hpr,ih (pastOf x.level r) o rest (by omega) hlp hc2' hrest]
     have:nodeL x (kidsOf x.level r) (pr (kidsOf x.level r))=tagL x++[62]++pr (kidsOf x.level r)++closeT x.name:=by
      unfold nodeL;rw [if_neg hk,if_neg hkn];rfl
     rw [this];simp
theorem zHc (c:Int):∀ (s:List ItemD),(∀ y∈s,c<y.level)→kidsOf c s=s∧pastOf c s=[]
 | [],_=>⟨rfl,rfl⟩
 | y :: s,h=>by
  obtain ⟨h1,h2⟩:=zHc c s (fun z hz=>h z (by simp [hz]))
  have hd:decide (c<y.level)=true:=by have:=h y (by simp);simpa using this
  constructor
  ·show List.takeWhile _ (y :: s)=_
   rw [List.takeWhile_cons,hd];show y :: kidsOf c s=_
   rw [h1]
  ·show List.dropWhile _ (y :: s)=_
   rw [List.dropWhile_cons,hd];exact h2
theorem Shape.pr {N:List ItemD} {x:ItemD} {s:List ItemD} (h:Shape N x s):pr N=nodeAt N 0:=by
 rw [h.eq,zJ3];have hk:kidsOf x.level s=s∧pastOf x.level s=[]:=zHc x.level s (fun y hy=>by have:=h.past y hy;have:=h.level;omega)
 rw [hk.2,zJ4,List.append_nil]
 rfl
theorem Shape.mach {N:List ItemD} {x:ItemD} {s:List ItemD} (h:Shape N x s):mach [] N=nodeAt N 0:=by
 have:=zK3 N.length N [] [] (Nat.le_refl _) (fun y hy=>by have:=h.zero y hy;simpa using this) (by simpa using h.cap) (fun y t h=>by cases h)
 rw [List.append_nil] at this;rw [this,← h.pr];show Go.Proofs.YtcombcoilpmnkaaGreat.pr N++[]=_
 rw [List.append_nil]
end
section
structure Fit (x:ItemD):Prop where
 name:x.name.length≤60
 attrs:x.attrs.length≤20
 each:∀ a∈x.attrs,a.name.length≤60∧a.value.length≤1500
theorem zJs {l:List UInt8} (h:nameL l=true):l.length≤60:=by
 unfold nameL at h
 split at h
 ·simp only [Bool.and_eq_true,decide_eq_true_eq] at h;exact h.1
 ·cases h
def cost (x:ItemD):Nat:=6 * x.text.length+(tagL x).length+x.name.length+6
end
section
def voidB (x:ItemD):Prop:=x.kind=2∧x.text=[]
def joinB (p x:ItemD):Prop:=x.kind=2∧p.kind=2∧p.level=x.level
def nfP (p:ItemD):List ItemD→Prop
 | []=>True
 | x :: r=>¬ voidB x ∧ ¬ joinB p x∧nfP x r
def NF:List ItemD→Prop
 | []=>True
 | x :: r=>¬ voidB x∧nfP x r
end
end Go.Proofs.YtcombcoilpmnkaaGreat

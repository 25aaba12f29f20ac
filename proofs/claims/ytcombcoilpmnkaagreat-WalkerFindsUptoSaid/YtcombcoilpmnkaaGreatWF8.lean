/-
  Texts of this claim, joined (by a program of the claim's author): GRows, GROw, GRNm, GRPa, GRLa, Res, GRLb, GRRd, GRKi, GRSp, RPart, RName, RParts, GRSe.
-/
import Derived.Test.YtcombcoilpmnkaaGreatWF2
import Derived.Test.YtcombcoilpmnkaaGreatWF4
import Derived.Test.YtcombcoilpmnkaaGreatWF1
import Derived.Test.YtcombcoilpmnkaaGreatWF3
import Derived.Test.YtcombcoilpmnkaaGreatWF6
import Derived.Test.YtcombcoilpmnkaaGreatWF7
import Derived.Laws.Rows
import Derived.Deep.Cut
import Derived.Deep.QuietTactic
import Derived.BigQuiet
import Derived.IntWalk
import Derived.Deep.RegionHeld3
namespace Go.Proofs.YtcombcoilpmnkaaGreat
set_option maxRecDepth 100000
set_option maxHeartbeats 16000000
section
open Go.RowKit
variable {X:Nat→Prop}
def RowCells (w:World) (ad:Addr) (k:Nat) (r:RowD) (A:Option Addr) (c:Nat):Prop :=
 w.cell? (ad.add (k * 6))=some (.int .i64 r.id)∧w.cell? ⟨(ad.add (k * 6)).block,(ad.add (k * 6)).off+1,none⟩=some (.int .i64 r.x.level)∧w.cell? ⟨(ad.add (k * 6)).block,(ad.add (k * 6)).off+2,none⟩=some (.int .i64 r.x.kind) ∧
 w.cell? ⟨(ad.add (k * 6)).block,(ad.add (k * 6)).off+3,none⟩=some (strV r.x.name)∧w.cell? ⟨(ad.add (k * 6)).block,(ad.add (k * 6)).off+4,none⟩=some (strV r.x.text)∧w.cell? ⟨(ad.add (k * 6)).block,(ad.add (k * 6)).off+5,none⟩=some (.slice A r.x.attrs.length c)
def AttrsX (X:Nat→Prop) (w:World) (B:Nat) (A:Option Addr) (l:List AttrD):Prop:=AttrsAt w B A l∧(0<l.length → ∀ ad,A=some ad→X ad.block)
theorem AttrsX.below {w w':World} {B:Nat} {A:Option Addr} {l:List AttrD} (h:AttrsX X w B A l) (hb:Below B w w'):AttrsX X w' B A l:=⟨h.1.below hb,h.2⟩
theorem AttrsX.more {w:World} {B B':Nat} {A:Option Addr} {l:List AttrD} (h:AttrsX X w B A l) (hb:B≤B'):AttrsX X w B' A l:=⟨h.1.more hb,h.2⟩
theorem AttrsX.of {w:World} {B:Nat} {A:Option Addr} {l:List AttrD} (h:AttrsAt w B A l) (hX:∀ b,b<B→X b):AttrsX X w B A l:=⟨h,fun hp ad e=>by
 obtain ⟨ad',e',hb,_⟩:=h hp
 rw [e] at e'
 injection e' with e'
 subst e';exact hX _ hb⟩
def Blk (X:Nat→Prop) (B b:Nat):Prop:=b<B∧X b
def RowsAt (X:Nat→Prop) (w:World) (B:Nat) (A:Option Addr) (l:List RowD):Prop :=
 0<l.length → ∃ ad,A=some ad∧Blk X B ad.block ∧ ∀ k r,l[k]? = some r → ∃ A' c,AttrsX X w B A' r.x.attrs∧r.x.attrs.length≤c∧RowCells w ad k r A' c
def SmallRows (l:List RowD):Prop:=l.length≤1000000 ∧ ∀ r∈l,(-1000000≤r.x.level∧r.x.level≤1000000)∧r.x.attrs.length≤1000000∧r.x.name.length≤1000000000∧r.x.text.length≤1000000000
section
variable {w w':World} {B B':Nat} {A:Option Addr} {l:List RowD}
theorem RowsAt.keep (h:RowsAt X w B A l) (hk:∀ p:Addr,p.block<B→w'.cell? p=w.cell? p):RowsAt X w' B A l:=fun hp=>by
 obtain ⟨ad,h1,h2,h3⟩:=h hp
 refine ⟨ad,h1,h2,fun k o ho=>?_⟩
 obtain ⟨A',c,k1,k2,k3,k4,k5,k6,k7,k8⟩:=h3 k o ho
 have hb:(ad.add (k * 6)).block<B:=by rw [zAD];exact h2.1
 exact ⟨A',c,⟨k1.1.keep hk,k1.2⟩,k2,(hk _ (by exact hb)).trans k3,(hk _ (by exact hb)).trans k4,(hk _ (by exact hb)).trans k5,(hk _ (by exact hb)).trans k6,(hk _ (by exact hb)).trans k7,(hk _ (by exact hb)).trans k8⟩
theorem RowsAt.more (h:RowsAt X w B A l) (hB:B≤B'):RowsAt X w B' A l:=fun hp=>by
 obtain ⟨ad,h1,h2,h3⟩:=h hp
 refine ⟨ad,h1,⟨Nat.lt_of_lt_of_le h2.1 hB,h2.2⟩,fun k o ho=>?_⟩
 obtain ⟨A',c,k1,k2⟩:=h3 k o ho
 exact ⟨A',c,k1.more hB,k2⟩
theorem RowsAt.below (h:RowsAt X w B A l) (hb:Below B w w'):RowsAt X w' B A l:=h.keep fun _ hp=>hb.cell hp
theorem RowsAt.row {ad:Addr} (h:RowsAt X w B (some ad) l) {k:Nat} {r:RowD} (hr:l[k]? = some r):ad.block<B ∧ ∃ A' c,AttrsX X w B A' r.x.attrs∧r.x.attrs.length≤c∧RowCells w ad k r A' c:=by
 obtain ⟨ad',e,hb,hc⟩:=h (by have:=(List.getElem?_eq_some_iff.1 hr).1;omega)
 injection e with e;subst e
 exact ⟨hb.1,hc k r hr⟩
end
/-! ## Found,the end,the parent -/
def findI (L:List RowD) (id:Int):Int:=match findL L id with
 | some k=>(k:Int)
 | none=>-1
theorem zL6 {L:List RowD} {k:Nat} {r:RowD} (h:L[k]? = some r):lvlL L k=r.x.level:=by unfold lvlL;rw [h]
end
section
open Go.RowKit Go.Shelf
variable {X:Nat→Prop}
abbrev SlotR:=RowD × Option Addr × Nat
def cellsR (s:SlotR):List Value:=[.int .i64 s.1.id,.int .i64 s.1.x.level,.int .i64 s.1.x.kind,strV s.1.x.name,strV s.1.x.text,.slice s.2.1 s.1.x.attrs.length s.2.2]
theorem zBY (s:SlotR):(cellsR s).length=6:=rfl
theorem zIJ (S:List SlotR):∀ u∈S.flatMap cellsR,u.oneCell'=true:=fun u hu=>by
 obtain ⟨s,_,hs⟩:=List.mem_flatMap.1 hu
 simp only [cellsR,List.mem_cons,List.not_mem_nil,or_false] at hs;rcases hs with rfl | rfl | rfl | rfl | rfl | rfl <;> rfl
def RowsOwn (w:World) (B:Nat) (A:Option Addr) (c:Nat) (S:List SlotR):Prop:=w.ownsRow B 88 6 (.slice A S.length c) S.length (S.flatMap cellsR)
theorem zJe:(Tryz.prog.info? 88).map (fun i=>(i.zero,i.size,i.bytes))=some (some (.agg #[.int .i64 0,.int .i64 0,.int .i64 0,.string ByteArray.empty,.string ByteArray.empty,.slice none 0 0]),6,80):=by kernel_rfl
def AttrsOf (X:Nat→Prop) (w:World) (N:Nat) (S:List SlotR):Prop:=∀ s∈S,AttrsX X w N s.2.1 s.1.x.attrs∧s.1.x.attrs.length≤s.2.2
theorem AttrsOf.below {w w':World} {N:Nat} {S:List SlotR} (h:AttrsOf X w N S) (hb:Below N w w'):AttrsOf X w' N S:=fun s hs=>⟨(h s hs).1.below hb,(h s hs).2⟩
theorem AttrsOf.more {w:World} {N N':Nat} {S:List SlotR} (h:AttrsOf X w N S) (hN:N≤N'):AttrsOf X w N' S:=fun s hs=>⟨(h s hs).1.more hN,(h s hs).2⟩
theorem AttrsOf.app {w:World} {N:Nat} {S T:List SlotR} (h:AttrsOf X w N S) (k:AttrsOf X w N T):AttrsOf X w N (S++T):=fun s hs=>by
 rcases List.mem_append.1 hs with hs | hs
 ·exact h s hs
 ·exact k s hs
theorem RowsOwn.nil (w:World) (B:Nat):RowsOwn w B none 0 []:=⟨by simp,.inl ⟨rfl,rfl⟩⟩
theorem RowsOwn.at {w:World} {B:Nat} {A:Option Addr} {c:Nat} {S:List SlotR} (h:RowsOwn w B A c S) (ha:AttrsOf X w w.heap.size S) (hX:∀ b,B≤b→X b):RowsAt X w w.heap.size A (S.map (·.1)):=fun hl=>by
 have hl':0<S.length:=by simpa using hl
 obtain ⟨g,rfl,hb,hg,_,hc⟩:=zDj cellsR zBY h hl'
 refine ⟨_,rfl,⟨hg,hX _ hb⟩,fun k x hx=>?_⟩
 rw [List.getElem?_map] at hx;obtain ⟨s,hs,rfl⟩:=Option.map_eq_some_iff.1 hx
 obtain ⟨h1,h2⟩:=ha s (List.mem_of_getElem? hs)
 have e:∀ j u,(cellsR s)[j]? = some u→w.cell? ⟨g,k * 6+j,none⟩=some u:=fun j u hu=>by
  have:=hc k s j u hs hu
  rwa [zAI] at this
 refine ⟨s.2.1,s.2.2,h1,h2,?_⟩
 unfold RowCells;rw [zAI];exact ⟨e 0 _ rfl,e 1 _ rfl,e 2 _ rfl,e 3 _ rfl,e 4 _ rfl,e 5 _ rfl⟩
theorem RowsOwn.keepB {w w':World} {B:Nat} {A:Option Addr} {c:Nat} {S:List SlotR} (h:RowsOwn w B A c S) (hb:Below w.heap.size w w'):RowsOwn w' B A c S:=zAC h fun b hb'=>hb.block b (h.lt b hb').2
theorem zLW {w:World} {B:Nat} {ad:Addr} {L:List RowD} (h:RowsAt X w B (some ad) L):∃ S:List SlotR,S.map (·.1)=L∧AttrsOf X w B S ∧ ∀ k s,S[k]? = some s → ∀ j u,(cellsR s)[j]? = some u→w.cell? (ad.add (k * 6+j))=some u:=by
 have key:∀ n,n≤L.length → ∃ S:List SlotR,S.map (·.1)=L.take n∧(∀ s∈S,AttrsX X w B s.2.1 s.1.x.attrs∧s.1.x.attrs.length≤s.2.2) ∧ ∀ k s,S[k]? = some s → ∀ j u,(cellsR s)[j]? = some u→w.cell? (ad.add (k * 6+j))=some u:=by
  intro n
  induction n with
  | zero=>intro _;exact ⟨[],rfl,by simp,fun k s hs=>by simp at hs⟩
  | succ n ih =>
   intro hn;obtain ⟨S,h1,h2,h3⟩:=ih (by omega)
   have hSl:S.length=n:=by have:=congrArg List.length h1;simpa [Nat.min_eq_left (show n≤L.length by omega)] using this
   obtain ⟨r,hr⟩:∃ r,L[n]? = some r:=⟨L[n],List.getElem?_eq_getElem (by omega)⟩
   obtain ⟨_,A',c',g1,g2,g3⟩:=h.row hr
   refine ⟨S++[(r,A',c')],by rw [List.map_append,h1,List.take_add_one,hr];rfl,fun s hs=>?_,fun k s hs j u hu=>?_⟩
   ·rcases List.mem_append.1 hs with hs | hs
    ·exact h2 s hs
    ·rw [List.mem_singleton.1 hs];exact ⟨g1,g2⟩
   ·by_cases hk:k<S.length
    ·rw [List.getElem?_append_left hk] at hs
     exact h3 k s hs j u hu
    ·have hk':k=n:=by
      have:=(List.getElem?_eq_some_iff.1 hs).1
      simp at this;omega
     subst hk';rw [List.getElem?_append_right (by omega),hSl,Nat.sub_self] at hs
     simp at hs
     subst hs;obtain ⟨e0,e1,e2,e3,e4,e5⟩:=g3
     have hadd:∀ j,j≠0→ad.add (k * 6+j)=⟨(ad.add (k * 6)).block,(ad.add (k * 6)).off+j,none⟩:=fun j hj=>by
      rw [← zBI]
      generalize ad.add (k * 6)=b
      unfold Addr.add;rw [if_neg hj]
     match j,hu with
     | 0,hu=>simp [cellsR] at hu;subst hu;exact e0
     | 1,hu=>simp [cellsR] at hu;subst hu;rw [hadd 1 (by decide)];exact e1
     | 2,hu=>simp [cellsR] at hu;subst hu;rw [hadd 2 (by decide)];exact e2
     | 3,hu=>simp [cellsR] at hu;subst hu;rw [hadd 3 (by decide)];exact e3
     | 4,hu=>simp [cellsR] at hu;subst hu;rw [hadd 4 (by decide)];exact e4
     | 5,hu=>simp [cellsR] at hu;subst hu;rw [hadd 5 (by decide)];exact e5
     | j+6,hu=>simp [cellsR] at hu
 obtain ⟨S,h1,h2,h3⟩:=key L.length (Nat.le_refl _)
 exact ⟨S,by rw [h1,List.take_length],h2,h3⟩
theorem zCF {W:World} {A:Option Addr} {c:Nat} {S0:List SlotR} (hown:RowsOwn W 0 A c S0) (T:List SlotR) (hT:0<T.length) (a:Addr) (cT:Nat) (hc:∀ j u,(T.flatMap cellsR)[j]? = some u→W.cell? (a.add j)=some u) (hl0:S0.length≤1000000) (hl1:T.length≤1000000) :
  ∃ pa pc w',(Builtin.append_ #[25,25] 25 #[.slice A S0.length c,.slice (some a) T.length cT]).run Tryz.prog W=.ok (.slice pa (S0.length+T.length) pc) w'∧RowsOwn w' 0 pa pc (S0++T)∧W.grownBy w' (Value.slice A S0.length c).ownBlock ∧
   ∀ b,(Value.slice pa (S0.length+T.length) pc).ownBlock=some b→(Value.slice A S0.length c).ownBlock=some b∨W.heap.size≤b:=by
 obtain ⟨v',w',hr,hrow,hg,hf⟩:=zAy (P:=Tryz.prog) W 25 25 88 _ 6 80 Tryz.underlying25 zJe rfl (by decide) (by decide) _ S0.length _ hown a T.length cT (T.flatMap cellsR) hT (zBJ cellsR 6 zBY T) hc (zIJ T) (by omega) (by omega)
 obtain ⟨pa,pc,rfl,_⟩:=zAR hrow
 refine ⟨pa,pc,w',hr,?_,hg,hf⟩
 unfold RowsOwn;rw [List.length_append,List.flatMap_append];exact hrow
theorem zET (W:World) (A:Option Addr) (n c:Nat) (hnc:n≤c) (A':Option Addr) (c':Nat):(Builtin.append_ #[25,25] 25 #[.slice A n c,.slice A' 0 c']).run Tryz.prog W=.ok (.slice A n c) W:=by
 obtain ⟨i0,hi0,hz0,hz1,hz2⟩:=info_parts zJe
 have hf:(Builtin.firstCells i0.size 0 (Value.slice A' 0 c')).run Tryz.prog W=.ok #[] W:=by
  cases A' with
  | none=>exact run_firstCells_none _ _ _ _ _
  | some a=>exact run_firstCells_some W i0.size 0 a 0 c' [] (by simp) (fun j v h=>by simp at h)
 cases A with
 | none=>simp [Builtin.append_,run_underlying Tryz.underlying25,sizeOf,typeInfo,zeroValue,hi0,hz0,Builtin.lenOf,hf,hnc]
 | some a=>simp [Builtin.append_,run_underlying Tryz.underlying25,sizeOf,typeInfo,zeroValue,hi0,hz0,Builtin.lenOf,hf,hnc,storeCells]
end
section
open Go.RowKit Go.Shelf
variable {X:Nat→Prop}
theorem zIZ {next more:Int} {l:List ItemD} {k:Nat} {x:ItemD} (h:l[k]? = some x):(namedL next l more).take (k+1)=(namedL next l more).take k++[⟨next+(k:Int),{ x with level:=x.level+more }⟩]:=by
 have hk:=(List.getElem?_eq_some_iff.1 h).1
 have hg:(namedL next l more)[k]? = some ⟨next+(k:Int),{ x with level:=x.level+more }⟩:=by
  unfold namedL;rw [List.getElem?_map];have hz:(l.zip (idsFrom next l.length))[k]? = some (x,next+(k:Int)):=by
   rw [List.getElem?_zip_eq_some];refine ⟨h,?_⟩
   unfold idsFrom;rw [List.getElem?_map,List.getElem?_range hk];rfl
  rw [hz];rfl
 rw [List.take_add_one,hg];rfl
theorem zGV (next more:Int) (l:List ItemD):(namedL next l more).length=l.length:=by
 unfold namedL;rw [List.length_map,List.length_zip,zAr,Nat.min_self]
theorem zKc (A0:Option Addr) (n0 c0:Nat) (next more:Int) (l:List ItemD) (A:Option Addr) (c N:Nat) (w:World) (hi:ItemsAt w N A l) (hN:N≤w.heap.size) (hln:l.length≤1000000) (hlv:∀ x∈l,(-1000000≤x.level∧x.level≤1000000)) (hm:-1000000≤more∧more≤1000000) (hn:0≤next∧next≤4294967296) (hNX:∀ b,b<N→X b) :
  Calls Tryz.prog 53 #[.agg #[.slice A0 n0 c0,.int .i64 next],.slice A l.length c,.int .i64 more] w fun er w'=>∃ A2 c2 S,er=.returned (.slice A2 S.length c2)∧S.map (·.1)=namedL next l more∧RowsOwn w' w.heap.size A2 c2 S∧AttrsOf X w N S∧Below w.heap.size w w':=by
 have HI:=Lib.hid hi
 have HLV:=Lib.hid hlv
 have HNX:=Lib.hid hNX
 obtain ⟨m0,m1⟩:=hm
 obtain ⟨n1,n2⟩:=hn
 obtain ⟨W1,hW1⟩:∃ W1,Hid (W1=w.alloc (.cells #[.slice A0 n0 c0,.int .i64 next] 27)):=⟨_,rfl⟩
 have hb1:Below w.heap.size w W1:=by rw [hW1.out];exact (Below.refl _ w).alloc (Nat.le_refl _) _
 have hX1:W1.heap[w.heap.size]? = some (.cells #[.slice A0 n0 c0,.int .i64 next] 27 (0,0)):=by rw [hW1.out];exact heap_alloc_new w _
 have hz1:w.heap.size<W1.heap.size:=by rw [hW1.out];simp
 have HB1:=Lib.hid hb1
 have HX1:=Lib.hid hX1
 have HZ1:=Lib.hid hz1
 clear hb1 hX1 hz1 hi hlv hNX
 go_enter Tryz.func53,Tryz.ntmps53
 go_wp2_with fail;rw [← hW1.out]
 go_loopw [7,8] (fun o i wr=>∃ (k:Nat) (A2:Option Addr) (c2:Nat) (S:List SlotR),k≤l.length∧i=.int .i64 (k:Int)∧o=.slice A2 k c2∧Hid (S.length=k)∧Hid (S.map (·.1)=(namedL next l more).take k)∧Hid (RowsOwn wr W1.heap.size A2 c2 S) ∧
  Hid (AttrsOf X w N S)∧Hid (Below W1.heap.size W1 wr)) (fun _ i _=>l.length-(intOf i).toNat)
 case atStart=>exact ⟨0,none,0,[],Nat.zero_le _,rfl,rfl,rfl,rfl,RowsOwn.nil _ _,fun s hs=>(by cases hs),Below.refl _ _⟩
 case round =>
  obtain ⟨k,A2,c2,S,hk,rfl,rfl,hSl,hS,hown,hat,hbel⟩:=hrel
  have hX:=(hbel.out.block _ HZ1.out).trans HX1.out
  have t0:=zAA hX 0 _ rfl
  have t1:=zAA hX 1 _ rfl
  have hI1:=HI.out.below ((HB1.out.trans (hbel.out.mono HB1.out.size)).mono hN)
  clear hX;by_cases hlt:k<l.length
  ·obtain ⟨x,hx⟩:∃ x,Hid (l[k]? = some x):=⟨l[k],List.getElem?_eq_getElem _⟩
   obtain ⟨ad,hAd,_⟩:=hI1 (by omega)
   subst hAd;obtain ⟨_,A',c',hat',hac,h0,h1,h2,h3,h4⟩:=hI1.item hx.out
   obtain ⟨_,B',c'',hatw,hacw,g0,g1,g2,g3,g4⟩:=(HI.out).item hx.out
   obtain ⟨x0,x1⟩:=HLV.out x (List.mem_of_getElem? hx.out)
   unfold strV at h2 h3;have k00:(0:Int)≤(k:Int):=by omega
   have hlt':(k:Int)<l.length:=by omega
   have hkb:(k:Int)≤1000000:=by omega
   obtain ⟨s,hs⟩:∃ s:SlotR,Hid (s=(⟨next+(k:Int),{ x with level:=x.level+more }⟩,B',c'')):=⟨_,rfl⟩
   have hAB:A'=B'∧c'=c'':=by
    have hcell:=(HB1.out.trans (hbel.out.mono HB1.out.size)).cell (p:=⟨(ad.add (k * 5)).block,(ad.add (k * 5)).off+4,none⟩) (by have:=(HI.out (by omega));obtain ⟨ad',e,h,_⟩:=this;injection e with e;subst e;show (ad.add _).block<_;rw [zAD];omega)
    rw [h4,g4] at hcell
    injection hcell with hcell
    injection hcell with q1 _ q3
    exact ⟨q1,q3⟩
   obtain ⟨rfl,rfl⟩:=hAB
   have HATW:=Lib.hid (And.intro (AttrsX.of hatw HNX.out) hacw)
   obtain ⟨W2,hW2⟩:∃ W2,Hid (W2=wr.alloc (.cells #[.int .i64 (x.level+more),.int .i64 x.kind,.string ⟨x.name.toArray⟩,.string ⟨x.text.toArray⟩,.slice A' x.attrs.length c'] 75)):=⟨_,rfl⟩
   have hb2:Below wr.heap.size wr W2:=by rw [hW2.out];exact (Below.refl _ wr).alloc (Nat.le_refl _) _
   have t1':W2.cell? ⟨w.heap.size,1,none⟩=some (.int .i64 next):=(hb2.cell (Nat.lt_of_lt_of_le HZ1.out hbel.out.size)).trans t1
   obtain ⟨W3,hW3⟩:∃ W3,Hid (W3=W2.alloc (.cells #[.int .i64 (next+(k:Int)),.int .i64 (x.level+more),.int .i64 x.kind,.string ⟨x.name.toArray⟩,.string ⟨x.text.toArray⟩,.slice A' x.attrs.length c'] 88)):=⟨_,rfl⟩
   have hb3:Below wr.heap.size wr W3:=by rw [hW3.out];exact hb2.alloc hb2.size _
   have hx3:W3.heap[W2.heap.size]? = some (.cells #[.int .i64 (next+(k:Int)),.int .i64 (x.level+more),.int .i64 x.kind,.string ⟨x.name.toArray⟩,.string ⟨x.text.toArray⟩,.slice A' x.attrs.length c'] 88 (0,0)):=by rw [hW3.out];exact heap_alloc_new W2 _
   have hown3:RowsOwn W3 0 A2 c2 S:=World.ownsRow.mono (hown.out.keepB hb3) (Nat.zero_le _)
   obtain ⟨pa,pc,w4,hr4,hrow4,hg4,hf4⟩:=zCF hown3 [s] (by simp) ⟨W2.heap.size,0,none⟩ 1 (fun j u hj=>by
    rw [zAI];refine zAA hx3 j u ?_
    rw [hs.out] at hj
    match j,hj with
    | 0,hj=>simpa [cellsR] using hj
    | 1,hj=>simpa [cellsR] using hj
    | 2,hj=>simpa [cellsR] using hj
    | 3,hj=>simpa [cellsR,strV] using hj
    | 4,hj=>simpa [cellsR,strV] using hj
    | 5,hj=>simpa [cellsR] using hj
    | j+6,hj=>simp [cellsR] at hj) (by rw [hSl.out];omega) (by simp)
   simp only [List.length_singleton] at hr4 hf4;have hlow:∀ b,(Value.slice A2 S.length c2).ownBlock=some b→W1.heap.size≤b:=fun b hb=>(hown.out.lt b hb).1
   have hb4:Below W1.heap.size W1 w4:=(hbel.out.trans (hb3.mono hbel.out.size)).grown hg4 (Nat.le_trans hbel.out.size hb3.size) (fun b hb=>hlow b hb)
   have hown4:RowsOwn w4 W1.heap.size pa pc (S++[s]):=by
    refine zLh hrow4 fun b hb=>?_
    rw [show (S++[s]).length=S.length+1 by simp] at hb
    rcases hf4 b hb with h | h
    ·exact hlow b h
    ·have:=hbel.out.size;have:=hb3.size;omega
   rw [hSl.out] at hr4;have hsz2:W2.heap.size=wr.heap.size+1:=by rw [hW2.out];simp
   rw [hsz2,hW3.out,hW2.out] at hr4;rw [hW2.out] at t1';have HOWN4:=Lib.hid hown4
   have HB4:=Lib.hid hb4
   have hSn:Hid ((S++[s]).map (·.1)=(namedL next l more).take (k+1)):=by
    show _=_
    rw [List.map_append,hS.out,zIZ hx.out,hs.out];rfl
   have hatn:Hid (AttrsOf X w N (S++[s])):=fun s' hs'=>by
    rcases List.mem_append.1 hs' with h | h
    ·exact hat.out s' h
    ·rw [List.mem_singleton.1 h,hs.out];exact HATW.out
   clear hI1 hat' g0 g1 g2 g3 g4 hatw hacw hb2 hb3 hx3 hown3 hrow4 hg4 hf4 hlow hb4 hown4 hsz2 t0 t1
   go_wp2_with (at_builtin;refine zAK _ rfl _ _ 25 rfl (.slice A2 k c2) (.slice (some ⟨wr.heap.size+1,0,none⟩) 1 1) (by simp [Act.eval]) (by simp [Act.eval]) hr4 ?_)
   go_roundw
   case rel=>exact ⟨k+1,pa,pc,S++[s],by omega,by go_num,rfl,by show _=_;simp [hSl.out],hSn.out,HOWN4.out,hatn.out,HB4.out⟩
   case measure=>simp [intOf];omega
  ·have hlt':¬ (k:Int)<l.length:=by omega
   have hfin:Hid (S.map (·.1)=namedL next l more):=by
    show _=_
    rw [hS.out,List.take_of_length_le (by rw [zGV];omega)]
   clear hI1
   go_wp2_with fail
   go_ret;exact ⟨A2,c2,S,by rw [hSl.out];rfl,hfin.out,World.ownsRow.mono hown.out HB1.out.size,hat.out,HB1.out.trans (hbel.out.mono HB1.out.size)⟩
end
section
open Go.RowKit Go.Shelf
variable {X:Nat→Prop}
theorem RowsAt.sub {w:World} {B:Nat} {ad:Addr} {L:List RowD} (h:RowsAt X w B (some ad) L) (k n:Nat):RowsAt X w B (some (ad.add (k * 6))) ((L.drop k).take n):=fun hp=>by
 have hk:k<L.length:=by
  have:=hp
  rw [List.length_take,List.length_drop] at this;omega
 obtain ⟨ad',e,hb,hc⟩:=h (by omega)
 injection e with e
 subst e;refine ⟨_,rfl,by rw [zAD];exact hb,fun j r hr=>?_⟩
 rw [List.getElem?_take] at hr
 split at hr
 ·rw [List.getElem?_drop] at hr
  obtain ⟨A',c,q1,q2,q3⟩:=hc (k+j) r hr
  refine ⟨A',c,q1,q2,?_⟩
  unfold RowCells at q3 ⊢;rw [zBI,← Nat.add_mul];exact q3
 ·cases hr
end
section
open Go.RowKit Go.Shelf
variable {X:Nat→Prop}
def SlotsAt (w:World) (B:Nat) (A:Option Addr) (T:List SlotR):Prop:=0<T.length → ∃ a,A=some a∧a.block<B ∧ ∀ k s,T[k]? = some s → ∀ j u,(cellsR s)[j]? = some u→w.cell? (a.add (k * 6+j))=some u
theorem zKL {w:World} {B:Nat} {A:Option Addr} {L:List RowD} (h:RowsAt X w B A L):∃ T:List SlotR,T.map (·.1)=L∧AttrsOf X w B T∧SlotsAt w B A T:=by
 by_cases hl:0<L.length
 ·obtain ⟨ad,rfl,hb,_⟩:=h hl
  obtain ⟨T,h1,h2,h3⟩:=zLW h
  exact ⟨T,h1,h2,fun _=>⟨ad,rfl,hb.1,h3⟩⟩
 ·have:L=[]:=List.length_eq_zero_iff.1 (by omega)
  subst this;exact ⟨[],rfl,fun s hs=>(by cases hs),fun h=>absurd h (by simp)⟩
theorem SlotsAt.keep {w w':World} {B:Nat} {A:Option Addr} {T:List SlotR} (h:SlotsAt w B A T) (hk:∀ p:Addr,p.block<B→w'.cell? p=w.cell? p):SlotsAt w' B A T:=fun hp=>by
 obtain ⟨a,h1,h2,h3⟩:=h hp
 exact ⟨a,h1,h2,fun k s hs j u hu=>(hk _ (by rw [zAD];exact h2)).trans (h3 k s hs j u hu)⟩
theorem SlotsAt.below {w w':World} {B:Nat} {A:Option Addr} {T:List SlotR} (h:SlotsAt w B A T) (hb:Below B w w'):SlotsAt w' B A T:=h.keep fun _ hp=>hb.cell hp
theorem SlotsAt.take {w:World} {B:Nat} {A:Option Addr} {T:List SlotR} (h:SlotsAt w B A T) (n:Nat):SlotsAt w B A (T.take n):=fun hp=>by
 obtain ⟨a,h1,h2,h3⟩:=h (by rw [List.length_take] at hp;omega)
 refine ⟨a,h1,h2,fun k s hs=>h3 k s ?_⟩
 rw [List.getElem?_take] at hs
 split at hs
 ·exact hs
 ·cases hs
theorem SlotsAt.drop {w:World} {B:Nat} {ad:Addr} {T:List SlotR} (h:SlotsAt w B (some ad) T) (n:Nat):SlotsAt w B (some (ad.add (n * 6))) (T.drop n):=fun hp=>by
 obtain ⟨a,h1,h2,h3⟩:=h (by rw [List.length_drop] at hp;omega)
 injection h1 with h1
 subst h1;refine ⟨_,rfl,by rw [zAD];exact h2,fun k s hs j u hu=>?_⟩
 rw [List.getElem?_drop] at hs;have:=h3 (n+k) s hs j u hu
 rw [zBI,show n * 6+(k * 6+j)=(n+k) * 6+j by omega]
 exact this
theorem zEd {W:World} {A:Option Addr} {c B:Nat} {S0:List SlotR} (hown:RowsOwn W 0 A c S0) (T:List SlotR) (A':Option Addr) (cT:Nat) (hT:SlotsAt W B A' T) (hl0:S0.length≤1000000) (hl1:T.length≤1000000) :
  ∃ pa pc w',(Builtin.append_ #[25,25] 25 #[.slice A S0.length c,.slice A' T.length cT]).run Tryz.prog W=.ok (.slice pa (S0.length+T.length) pc) w'∧RowsOwn w' 0 pa pc (S0++T)∧W.grownBy w' (Value.slice A S0.length c).ownBlock ∧
   ∀ b,(Value.slice pa (S0.length+T.length) pc).ownBlock=some b→(Value.slice A S0.length c).ownBlock=some b∨W.heap.size≤b:=by
 by_cases h0:0<T.length
 ·obtain ⟨a,rfl,_,h3⟩:=hT h0
  refine zCF hown T h0 a cT (fun j u hj=>?_) hl0 hl1
  have hlen:=zBJ cellsR 6 zBY T
  have hj6:j<T.length * 6:=by rw [← hlen];exact (List.getElem?_eq_some_iff.1 hj).1
  obtain ⟨q,r,hr,rfl⟩:∃ q r,r<6∧j=q * 6+r:=⟨j / 6,j % 6,by omega,by omega⟩
  have hq:q<T.length:=by omega
  have hs:T[q]? = some T[q]:=List.getElem?_eq_getElem hq
  rw [zDf cellsR 6 zBY T q r _ hs hr] at hj;exact h3 q _ hs r u hj
 ·have:T=[]:=List.length_eq_zero_iff.1 (by omega)
  subst this;obtain ⟨_,c',hv,hnc,_⟩:=zAR hown
  injection hv with hA _ hc
  subst hc;have:=zET W A S0.length c hnc A' cT
  exact ⟨A,c,W,by simpa using this,by rw [List.append_nil];exact hown,⟨rfl,rfl,rfl,Nat.le_refl _,fun _ _ _=>rfl⟩,fun b hb=>.inl (by simpa using hb)⟩
def SliceOk (A:Option Addr) (n c:Nat):Prop:=n≤c∧c≤maxLen∧(A=none→n=0∧c=0)
theorem RowsOwn.ok {w:World} {B:Nat} {A:Option Addr} {c:Nat} {S:List SlotR} (h:RowsOwn w B A c S):SliceOk A S.length c:=by
 obtain ⟨A',c',hv,h1,h2,h3,_⟩:=zAR (World.ownsRow.mono h (Nat.zero_le _))
 injection hv with e1 _ e3
 subst e1;subst e3;exact ⟨h1,h2,h3⟩
end
section
open Go.RowKit
end
section
open Go.RowKit Go.Shelf
variable {X:Nat→Prop}
def treeV (A:Option Addr) (n c:Nat) (next:Int):Array Value:=#[.slice A n c,.int .i64 next]
def zeroT:Array Value:=#[.slice none 0 0,.int .i64 0]
theorem zBq (A:Option Addr) (n c:Nat) (next:Int):(treeV A n c next).all (·.oneCell')=true:=by simp [treeV,Value.oneCell']
end
section
open Go.RowKit Go.Shelf
variable {X:Nat→Prop}
def rootL (L:List RowD):Int:=match L with
 | []=>0
 | r :: _=>r.id
end
section
open Go.RowKit Go.Shelf
variable {X:Nat→Prop}
def ints (l:List Nat):List Int:=l.map fun (k:Nat)=>(k:Int)
theorem zAs (l:List Nat):(ints l).length=l.length:=by unfold ints;simp
end
section
open Go.RowKit Go.Shelf
variable {X:Nat→Prop}
end
section
open Go.RowKit
theorem dT (a b:Int) (h:a≤b:=by omega):decide (a≤b)=true:=decide_eq_true h
theorem dF (a b:Int) (h:b<a:=by omega):decide (a≤b)=false:=decide_eq_false (by omega)
theorem eF (a b:Int) (h:a≠b:=by omega):(a == b)=false:=by simpa using h
theorem zIC (c:Int) (w:World):Calls Tryz.prog 93 #[.int .i32 c] w (Ret w (.bool (startB c))):=by
 have hcs:c<65∨(65≤c∧c<91)∨(91≤c∧c<95)∨(95≤c∧c<96)∨(96≤c∧c<97)∨(97≤c∧c<123)∨(123≤c∧c<192)∨(192≤c∧c<215)∨(215≤c∧c<216)∨(216≤c∧c<247)∨(247≤c∧c<248)∨(248≤c∧c<768)∨(768≤c∧c<880)∨(880≤c∧c<894)∨(894≤c∧c<895)∨(895≤c∧c<8192)∨(8192≤c∧c<8204)∨(8204≤c∧c<8205)∨(8205≤c∧c<8206)∨(8206≤c∧c<8304)∨(8304≤c∧c<8592)∨(8592≤c∧c<11264)∨(11264≤c∧c<12272)∨(12272≤c∧c<12289)∨(12289≤c∧c<55296)∨(55296≤c∧c<63744)∨(63744≤c∧c<64976)∨(64976≤c∧c<65008)∨(65008≤c∧c<65534)∨(65534≤c∧c<65536)∨(65536≤c∧c<983040)∨983040≤c:=by omega
 rcases hcs with k | k | k | k | k | k | k | k | k | k | k | k | k | k | k | k | k | k | k | k | k | k | k | k | k | k | k | k | k | k | k | k
 all_goals first | have e95:=eF c 95 | have e95:(c == 95)=true:=by simp;omega
 all_goals first | have e8204:=eF c 8204 | have e8204:(c == 8204)=true:=by simp;omega
 all_goals first | have e8205:=eF c 8205 | have e8205:(c == 8205)=true:=by simp;omega
 all_goals first | have a65:=dT 65 c | have a65:=dF 65 c
 all_goals first | have b90:=dT c 90 | have b90:=dF c 90
 all_goals first | have a97:=dT 97 c | have a97:=dF 97 c
 all_goals first | have b122:=dT c 122 | have b122:=dF c 122
 all_goals first | have a192:=dT 192 c | have a192:=dF 192 c
 all_goals first | have b214:=dT c 214 | have b214:=dF c 214
 all_goals first | have a216:=dT 216 c | have a216:=dF 216 c
 all_goals first | have b246:=dT c 246 | have b246:=dF c 246
 all_goals first | have a248:=dT 248 c | have a248:=dF 248 c
 all_goals first | have b767:=dT c 767 | have b767:=dF c 767
 all_goals first | have a880:=dT 880 c | have a880:=dF 880 c
 all_goals first | have b893:=dT c 893 | have b893:=dF c 893
 all_goals first | have a895:=dT 895 c | have a895:=dF 895 c
 all_goals first | have b8191:=dT c 8191 | have b8191:=dF c 8191
 all_goals first | have a8304:=dT 8304 c | have a8304:=dF 8304 c
 all_goals first | have b8591:=dT c 8591 | have b8591:=dF c 8591
 all_goals first | have a11264:=dT 11264 c | have a11264:=dF 11264 c
 all_goals first | have b12271:=dT c 12271 | have b12271:=dF c 12271
 all_goals first | have a12289:=dT 12289 c | have a12289:=dF 12289 c
 all_goals first | have b55295:=dT c 55295 | have b55295:=dF c 55295
 all_goals first | have a63744:=dT 63744 c | have a63744:=dF 63744 c
 all_goals first | have b64975:=dT c 64975 | have b64975:=dF c 64975
 all_goals first | have a65008:=dT 65008 c | have a65008:=dF 65008 c
 all_goals first | have b65533:=dT c 65533 | have b65533:=dF c 65533
 all_goals first | have a65536:=dT 65536 c | have a65536:=dF 65536 c
 all_goals first | have b983039:=dT c 983039 | have b983039:=dF c 983039
 all_goals first | (have hv:Hid (startB c=false):=by show _=_;unfold startB;simp;omega) | (have hv:Hid (startB c=true):=by show _=_;unfold startB;simp;omega)
 all_goals clear k
 all_goals (go_enter Tryz.func93,Tryz.ntmps93)
 all_goals (go_wp2_with fail)
 all_goals (go_ret)
 all_goals (exact ⟨by rw [hv.out];rfl,Below.refl _ _⟩)
theorem zCk (c:Int) (w:World) (r:Bool) (h:Hid (startB c=r)):Calls Tryz.prog 93 #[.int .i32 c] w (Ret w (.bool r)):=by
 rw [← h.out];exact zIC c w
theorem zI5 (c:Int) (w:World):Calls Tryz.prog 94 #[.int .i32 c] w (Ret w (.bool (partB c))):=by
 obtain ⟨b,hb⟩:∃ b,Hid (startB c=b):=⟨_,rfl⟩
 cases b with
 | true =>
  have hv:Hid (partB c=true):=by show _=_;unfold partB;rw [hb.out];rfl
  go_enter Tryz.func94,Tryz.ntmps94
  go_wp2_with fail;refine (zCk c _ _ hb).mono ?_;rintro e w2 ⟨rfl,hb2⟩
  go_wp2_with fail
  go_ret;exact ⟨by rw [hv.out];rfl,hb2⟩
 | false =>
  have hcs:c<45∨(45≤c∧c<46)∨(46≤c∧c<47)∨(47≤c∧c<48)∨(48≤c∧c<58)∨(58≤c∧c<183)∨(183≤c∧c<184)∨(184≤c∧c<768)∨(768≤c∧c<880)∨(880≤c∧c<8255)∨(8255≤c∧c<8256)∨(8256≤c∧c<8257)∨8257≤c:=by omega
  rcases hcs with k | k | k | k | k | k | k | k | k | k | k | k | k
  all_goals first | have e45:=eF c 45 | have e45:(c == 45)=true:=by simp;omega
  all_goals first | have e46:=eF c 46 | have e46:(c == 46)=true:=by simp;omega
  all_goals first | have e183:=eF c 183 | have e183:(c == 183)=true:=by simp;omega
  all_goals first | have e8255:=eF c 8255 | have e8255:(c == 8255)=true:=by simp;omega
  all_goals first | have e8256:=eF c 8256 | have e8256:(c == 8256)=true:=by simp;omega
  all_goals first | have a48:=dT 48 c | have a48:=dF 48 c
  all_goals first | have b57:=dT c 57 | have b57:=dF c 57
  all_goals first | have a768:=dT 768 c | have a768:=dF 768 c
  all_goals first | have b879:=dT c 879 | have b879:=dF c 879
  all_goals first | (have hv:Hid (partB c=startB c):=by show _=_;unfold partB;rw [Bool.or_eq_left_iff_imp];simp;omega) | (have hv:Hid (partB c=true):=by show _=_;unfold partB;simp;right;omega)
  all_goals clear k
  all_goals (go_enter Tryz.func94,Tryz.ntmps94)
  all_goals (go_wp2_with fail)
  all_goals (refine (zCk c _ _ hb).mono ?_;rintro e w2 ⟨rfl,hb2⟩)
  all_goals (go_wp2_with fail)
  all_goals (go_ret)
  all_goals (exact ⟨by rw [hv.out];first | rfl | (rw [hb.out];rfl),hb2⟩)
theorem zDc (c:Int) (w:World) (r:Bool) (h:Hid (partB c=r)):Calls Tryz.prog 94 #[.int .i32 c] w (Ret w (.bool r)):=by
 rw [← h.out];exact zI5 c w
end
section
open Go.RowKit
theorem zCj (s:ByteArray) (w:World) (hs:s.size≤1000000000) (r:Bool) (hr:Hid (nameL s.data.toList=r)) :
  Calls Tryz.prog 60 #[.string s] w (Ret w (.bool r)):=by
 obtain ⟨q,hq⟩:∃ q,Hid (charsL s.data.toList=q):=⟨_,rfl⟩
 have hr':=hr.out
 unfold nameL at hr';rw [hq.out,zAH] at hr';cases q with
 | none =>
  have hv:Hid (r=false):=hr'.symm
  clear hr'
  go_enter Tryz.func60,Tryz.ntmps60
  go_wp2_with fail;refine (zBs s w hs).mono ?_
  rw [hq.out];rintro e w2 ⟨ad,cp,rfl,hown,hb2⟩;clear hown
  go_wp2_with fail
  go_ret;exact ⟨by rw [hv.out];rfl,hb2⟩
 | some cs =>
  cases cs with
  | nil =>
   have hv:Hid (r=false):=hr'.symm
   clear hr';have hnil:s.data.toList=[]:=by
    by_cases hl:s.data.toList=[]
    ·exact hl
    ·exfalso
     have hc:=hq.out
     by_cases hn:(nextL s.data.toList).2=0
     ·rw [zBa _ hl hn] at hc;cases hc
     ·rw [zA3 _ hl hn] at hc
      cases hd:charsL (s.data.toList.drop (nextL s.data.toList).2) <;> rw [hd] at hc <;> simp at hc
   have hsz:(s.size:Int)<1:=by rw [← zAH,hnil];decide
   clear hnil
   go_enter Tryz.func60,Tryz.ntmps60
   go_wp2_with fail;refine (zBs s w hs).mono ?_
   rw [hq.out];rintro e w2 ⟨ad,cp,rfl,hown,hb2⟩;clear hown
   go_wp2_with fail
   go_ret;exact ⟨by rw [hv.out];rfl,hb2⟩
  | cons c cs =>
   have hne:s.data.toList≠[]:=by intro h;have:=hq.out;rw [h,zA0] at this;cases this
   have hpos:s.size≠0:=by intro h;apply hne;exact List.eq_nil_of_length_eq_zero (by rw [zAH];exact h)
   have hcl:cs.length+1≤s.size:=by have:=zIL _ _ hq.out;rw [zAH] at this;exact this
   have h1:decide ((s.size:Int)<1)=false:=by simp;omega
   clear hne;by_cases h60:s.size≤60
   ·have h2:decide ((60:Int)<s.size)=false:=by simp;omega
    simp only [h60,decide_true,Bool.true_and] at hr';clear h60 hpos;cases hst:startB c with
    | false =>
     have HST:Hid (startB c=false):=hst
     have hv:Hid (r=false):=by show _=_;rw [← hr',hst];rfl
     clear hr' hst
     go_enter Tryz.func60,Tryz.ntmps60
     go_wp2_with fail;refine (zBs s w hs).mono ?_
     rw [hq.out];rintro e w2 ⟨ad,cp,rfl,hown,hb2⟩;have hz2:=hb2.size
     rcases zGb hown with ⟨rfl,hn0,rfl⟩ | ⟨g,rfl,hg1,hg2⟩
     ·cases hn0
     ·have hcell:w2.cell? ⟨g,0,none⟩=some (.int .i32 c):=zAd hown 0 _ rfl
      have hlen:((Option.getD (some (c :: cs)) []).length)=cs.length+1:=rfl
      clear hown;rw [hlen]
      go_wp2_with fail;refine (zCk c _ _ HST).mono ?_;rintro e w3 ⟨rfl,hb3⟩
      go_wp2_with fail
      go_ret;exact ⟨by rw [hv.out];rfl,hb2.trans (hb3.mono hz2)⟩
    | true =>
     have HST:Hid (startB c=true):=hst
     have hv:Hid ((c :: cs).all partB=r):=by show _=_;rw [← hr',hst];rfl
     clear hr' hst
     go_enter Tryz.func60,Tryz.ntmps60
     go_wp2_with fail;refine (zBs s w hs).mono ?_
     rw [hq.out];rintro e w2 ⟨ad,cp,rfl,hown,hb2⟩;have hz2:=hb2.size
     rcases zGb hown with ⟨rfl,hn0,rfl⟩ | ⟨g,rfl,hg1,hg2⟩
     ·cases hn0
     ·have hcell:w2.cell? ⟨g,0,none⟩=some (.int .i32 c):=zAd hown 0 _ rfl
      have hlen:((Option.getD (some (c :: cs)) []).length)=cs.length+1:=rfl
      have HOWN:=Lib.hid hown
      clear hown;rw [hlen]
      go_wp2_with fail;refine (zCk c _ _ HST).mono ?_;rintro e w3 ⟨rfl,hb3⟩;have hz3:=hb3.size
      go_wp2_with fail;obtain ⟨L,hL⟩:∃ L,Hid (L=c :: cs):=⟨_,rfl⟩
      have hLl:L.length=cs.length+1:=by rw [hL.out];rfl
      go_loopw [5] (fun i wr=>∃ (k:Nat),k≤cs.length+1∧i=.int .i64 k∧Hid ((L.drop k).all partB=r)∧Below w2.heap.size w2 wr) (fun i _=>cs.length+1-(intOf i).toNat)
      case atStart=>exact ⟨0,Nat.zero_le _,rfl,by show _=_;rw [hL.out];exact hv.out,hb3⟩
      case round =>
       obtain ⟨k,hk,rfl,hall,hbel⟩:=hrel
       have hzr:=hbel.size
       by_cases hlt:k<cs.length+1
       ·obtain ⟨d,hd⟩:∃ d,Hid (L[k]? = some d):=⟨L[k],List.getElem?_eq_getElem _⟩
        have hcell:wr.cell? ⟨g,k,none⟩=some (.int .i32 d):=by
         rw [hbel.cell (p:=⟨g,k,none⟩) hg2];refine zAd HOWN.out k _ ?_
         show ((c :: cs).map (Value.int .i32))[k]? = _
         rw [List.getElem?_map,← hL.out,hd.out];rfl
        have hdrop:L.drop k=d :: L.drop (k+1):=by
         have h:=hd.out
         have hl:k<L.length:=by omega
         rw [List.drop_eq_getElem_cons hl];rw [List.getElem?_eq_getElem hl] at h
         injection h with h;rw [h]
        have hall':(partB d && (L.drop (k+1)).all partB)=r:=by rw [← hall.out,hdrop];rfl
        clear hdrop;cases hp:partB d with
        | false =>
         have HP:Hid (partB d=false):=hp
         have hv:Hid (r=false):=by show _=_;rw [← hall',hp];rfl
         clear hall' hp
         go_wp2_with fail;refine (zDc d _ _ HP).mono ?_;rintro e w4 ⟨rfl,hb4⟩
         go_wp2_with fail
         go_ret;exact ⟨by rw [hv.out];rfl,(hb2.trans (hbel.mono (by omega))).trans (hb4.mono (by omega))⟩
        | true =>
         have HP:Hid (partB d=true):=hp
         have hv:Hid ((L.drop (k+1)).all partB=r):=by show _=_;rw [← hall',hp];rfl
         clear hall' hp
         go_wp2_with fail;refine (zDc d _ _ HP).mono ?_;rintro e w4 ⟨rfl,hb4⟩
         go_wp2_with fail
         go_roundw
         case rel=>exact ⟨k+1,by omega,by go_num,hv,hbel.trans (hb4.mono (by omega))⟩
         case measure=>simp [intOf];omega
       ·have hk':k=cs.length+1:=by omega
        have hv:Hid (r=true):=by
         show _=_
         rw [← hall.out,List.drop_eq_nil_of_le (by omega)];rfl
        subst hk'
        go_wp2_with fail
        go_ret;exact ⟨by rw [hv.out];rfl,hb2.trans (hbel.mono (by omega))⟩
   ·have h2:decide ((60:Int)<s.size)=true:=by simp;omega
    have hv:Hid (r=false):=by show _=_;rw [← hr'];simp [h60]
    clear hr' h60 hpos
    go_enter Tryz.func60,Tryz.ntmps60
    go_wp2_with fail;refine (zBs s w hs).mono ?_
    rw [hq.out];rintro e w2 ⟨ad,cp,rfl,hown,hb2⟩;clear hown
    go_wp2_with fail
    go_ret;exact ⟨by rw [hv.out];rfl,hb2⟩
end
section
open Go.RowKit
theorem zCT (s:List UInt8) (w:World) (hs:s.length≤1000000000) (r:Bool) (hr:Hid (nameL s=r)) :
  Calls Tryz.prog 60 #[.string ⟨s.toArray⟩] w (Ret w (.bool r)):=zCj _ w (by show s.toArray.size≤_;simp;omega) r hr
theorem zFL (r:List AttrD):attrNames [] r=match r with | []=>true | a :: t=>nameL a.name && attrNames a.name t:=by
 cases r with
 | nil=>rfl
 | cons a t =>
  show (nameL a.name && !leB a.name [] && attrNames a.name t)=(nameL a.name && attrNames a.name t)
  cases hn:nameL a.name with
  | false=>rfl
  | true =>
   have:leB a.name []=false:=by
    cases ha:a.name with
    | nil=>rw [ha] at hn;simp [nameL,zA0] at hn
    | cons b t=>rfl
   rw [this];rfl
def fromK (l:List AttrD):Nat→Bool
 | 0=>attrNames [] l
 | j+1=>match l[j]? with | some a=>attrNames a.name (l.drop (j+1)) | none=>true
theorem zG8 (l:List AttrD) (a:AttrD) (h:l[0]? = some a):fromK l 0=(nameL a.name && fromK l 1):=by
 cases l with
 | nil=>cases h
 | cons b t =>
  injection h with h;subst h
  exact zFL _
theorem zIR (l:List AttrD) (k:Nat) (p a:AttrD) (hk:0<k) (hp:l[k-1]? = some p) (h:l[k]? = some a):fromK l k=(nameL a.name && !leB a.name p.name && fromK l (k+1)):=by
 obtain ⟨j,rfl⟩:∃ j,k=j+1:=⟨k-1,by omega⟩
 have hp':l[j]? = some p:=hp
 show (match l[j]? with | some a=>attrNames a.name (l.drop (j+1)) | none=>true)=_
 rw [hp',zAY h];show _=(_ && (match l[j+1]? with | some a=>attrNames a.name (l.drop (j+1+1)) | none=>true))
 rw [h];rfl
theorem zJW (l:List AttrD):fromK l l.length=true:=by
 cases hl:l.length with
 | zero=>rw [List.eq_nil_of_length_eq_zero hl];rfl
 | succ j =>
  show (match l[j]? with | some a=>attrNames a.name (l.drop (j+1)) | none=>true)=true
  rw [List.drop_eq_nil_of_le (by omega)]
  cases l[j]? <;> rfl
theorem zDD (x:ItemD) (A:Option Addr) (c:Nat) (w:World) (hA:AttrsAt w w.heap.size A x.attrs) (hs:SmallItem x) (V:Int) (hV:Hid (partsE x=V)) :
  Calls Tryz.prog 106 #[.agg (itemVal x A c)] w (Ret w (.int .i64 V)):=by
 obtain ⟨hs1,hs2,hs3,hs4,hs5⟩:=hs
 have HS4:=Lib.hid hs4
 have HA:=Lib.hid hA
 clear hs4 hA hs5;have hV':=hV.out
 unfold partsE at hV';clear hV;by_cases k1:x.kind=2
 ·have e1:(x.kind == 2)=true:=by simp [k1]
  by_cases k2:x.name=[]
  ·have e2:(x.name == [])=true:=by simp [k2]
   by_cases k3:x.attrs=[]
   ·rw [if_pos ⟨k1,k2,k3⟩] at hV'
    have HV:=Lib.hid hV'
    have e3:x.attrs.length=0:=by rw [k3];rfl
    unfold itemVal strV;rw [e3];clear hV' k1 k2 k3
    go_enter Tryz.func106,Tryz.ntmps106
    go_wp2_with fail;refine (zFg _ _ hs2 _ HV).mono ?_;rintro e w2 ⟨rfl,hb2⟩
    go_wp2_with fail
    go_ret;exact ⟨rfl,((Below.refl _ w).alloc (Nat.le_refl _) _).trans (hb2.mono (by simp))⟩
   ·have hv:Hid (V=68):=by
     show _=_
     rw [← hV',if_neg (fun h=>k3 h.2.2),if_pos (.inl (by omega))]
    have e3:0<x.attrs.length:=by
     have:x.attrs.length≠0:=fun h=>k3 (List.eq_nil_of_length_eq_zero h)
     omega
    clear hV' k1 k2 k3;unfold itemVal strV
    go_enter Tryz.func106,Tryz.ntmps106
    go_wp2_with fail
    go_ret;exact ⟨by rw [hv.out];rfl,(Below.refl _ w).alloc (Nat.le_refl _) _⟩
  ·have e2:(x.name == [])=false:=by simp [k2]
   have hv:Hid (V=68):=by
    show _=_
    rw [← hV',if_neg (fun h=>k2 h.2.1),if_pos (.inl (by omega))]
   clear hV' k1 k2;unfold itemVal strV
   go_enter Tryz.func106,Tryz.ntmps106
   go_wp2_with fail
   go_ret;exact ⟨by rw [hv.out];rfl,(Below.refl _ w).alloc (Nat.le_refl _) _⟩
 ·rw [if_neg (fun h=>k1 h.1)] at hV'
  have e1:(x.kind == 2)=false:=by simp [k1]
  by_cases k2:x.kind=1
  ·have e4:(x.kind != 1)=false:=by simp [k2]
   by_cases k3:x.text=[]
   ·have e5:(x.text == [])=true:=by simp [k3]
    rw [if_neg (by rintro (h | h);exact h k2;exact h k3)] at hV'
    clear k1 k2 k3;unfold namesE at hV';cases hn:nameL x.name with
    | false =>
     have HN:Hid (nameL x.name=false):=hn
     have hv:Hid (V=63):=by show _=_;rw [← hV',hn];rfl
     clear hV' hn;unfold itemVal strV
     go_enter Tryz.func106,Tryz.ntmps106
     go_wp2_with fail;refine (zCT _ _ hs1 _ HN).mono ?_;rintro e w2 ⟨rfl,hb2⟩
     go_wp2_with fail
     go_ret;exact ⟨by rw [hv.out];rfl,((Below.refl _ w).alloc (Nat.le_refl _) _).trans (hb2.mono (by simp))⟩
    | true =>
     have HN:Hid (nameL x.name=true):=hn
     rw [hn,Bool.true_and] at hV';clear hn;obtain ⟨R,hR⟩:∃ R,Hid (fromK x.attrs 0=R):=⟨_,rfl⟩
     have hR1:attrNames [] x.attrs=R:=hR.out
     rw [hR1] at hV';have HV:=Lib.hid hV'
     clear hV' hR1;unfold itemVal strV
     go_enter Tryz.func106,Tryz.ntmps106
     go_wp2_with fail;obtain ⟨w1,hw1⟩:∃ w1,Hid (w1=w.alloc (.cells #[.int .i64 x.level,.int .i64 x.kind,.string ⟨x.name.toArray⟩,.string ⟨x.text.toArray⟩,.slice A x.attrs.length c] 75)):=⟨_,rfl⟩
     have hbw1:Below w.heap.size w w1:=by rw [hw1.out];exact (Below.refl _ w).alloc (Nat.le_refl _) _
     have hz1:w.heap.size<w1.heap.size:=by rw [hw1.out];simp
     have hcell1:Hid (w1.cell? ⟨w.heap.size,4,none⟩=some (.slice A x.attrs.length c)):=by
      show _=_
      rw [hw1.out,World.cell?_alloc_at _ _ _ _ (by simp)];rfl
     rw [← hw1.out];refine (zCT _ _ hs1 _ HN).mono ?_;rintro e w2 ⟨rfl,hb2⟩;have hz2:=hb2.size
     have H4:Hid (∀ w',Below w1.heap.size w1 w'→w'.cell? ⟨w.heap.size,4,none⟩=some (.slice A x.attrs.length c)):=fun w' hb=>by
      rw [hb.cell (p:=⟨w.heap.size,4,none⟩) hz1];exact hcell1.out
     have hc4:=H4.out w2 hb2
     go_wp2_with fail
     go_loopw [3] (fun i wr=>∃ (k:Nat),k≤x.attrs.length∧i=.int .i64 k∧Hid (fromK x.attrs k=R)∧Below w1.heap.size w1 wr) (fun i _=>x.attrs.length-(intOf i).toNat)
     case atStart=>exact ⟨0,Nat.zero_le _,rfl,hR,hb2⟩
     case round =>
      obtain ⟨k,hk,rfl,hin,hbel⟩:=hrel
      have hzr:=hbel.size
      have hbwr:Below w.heap.size w wr:=hbw1.trans (hbel.mono (by omega))
      have hc4r:=H4.out wr hbel
      by_cases hlt:k<x.attrs.length
      ·obtain ⟨a,ha⟩:∃ a,Hid (x.attrs[k]? = some a):=⟨x.attrs[k],List.getElem?_eq_getElem _⟩
       obtain ⟨ad,hAd,hbl,hcs⟩:=HA.out (by omega)
       have hnm:=(HS4.out k a ha.out).1
       subst hAd;have hlt':(k:Int)<x.attrs.length:=by omega
       have HC:∀ (j:Nat) (b:AttrD),x.attrs[j]? = some b → ∀ w',Below w1.heap.size w1 w'→w'.cell? (ad.add (j * 2))=some (.string ⟨b.name.toArray⟩):=fun j b hj w' hb=>by
        rw [(hbw1.trans (hb.mono (by omega))).cell (p:=ad.add (j * 2)) (by rw [zAD];exact hbl)]
        exact (hcs j b hj).1
       have HCC:=Lib.hid HC
       clear HC hcs;rcases Nat.eq_zero_or_pos k with hk0 | hk0
       ·have hin':=hin.out
        have hin':(nameL a.name && fromK x.attrs (k+1))=R:=by
         have ha':=ha.out
         subst hk0;rw [← hin',zG8 _ a ha']
        obtain ⟨q,hq⟩:∃ q,Hid (nameL a.name=q):=⟨_,rfl⟩
        rw [hq.out] at hin';have HIN:=Lib.hid hin'
        clear hin';have hg1:decide ((0:Int)<(k:Int))=false:=by subst hk0;decide
        have hg2:decide (0<k)=false:=by subst hk0;decide
        clear hk0;have hk0':(0:Int)≤(k:Int):=Int.natCast_nonneg _
        have HS:Hid (∀ w',Below w1.heap.size w1 w'→(Below w1.heap.size w1 w'∧w'.cell? ⟨w.heap.size,4,none⟩=some (.slice (some ad) x.attrs.length c)∧w'.cell? (ad.add (k * 2))=some (.string ⟨a.name.toArray⟩))) :=
         fun w' hb=>⟨hb,H4.out w' hb,HCC.out k a ha.out w' hb⟩
        cases q with
        | false =>
         have hv:Hid (V=63):=by
          show _=_
          have hR0:R=false:=HIN.out.symm
          rw [← HV.out,hR0];rfl
         go_wp2_with fail;refine wp_region_held_drew (S:=fun w'=>Below w1.heap.size w1 w'∧w'.cell? ⟨w.heap.size,4,none⟩=some (.slice (some ad) x.attrs.length c)∧w'.cell? (ad.add (k * 2))=some (.string ⟨a.name.toArray⟩)) (by kernel_rfl) (HS.out _ hbel.drew) (fun hHeld=>?_)
         refine tkv 0 (h:=tkv 1 (h:=tkv 2 (h:=tkv 3 (h:=tkv 4 (h:=tkv 5 (h:=?_))))))
         refine rdy 6 (fun K hK=>?_)
         go_simp
         refine (zCT _ _ hnm _ hq).mono ?_;rintro e w3 ⟨rfl,hb3⟩
         go_wp2_with fail;refine hK.out _ _ (HS.out _ (hbel.drew.trans (hb3.mono hbel.drew.size))) (fun hHeld=>?_)
         clear hK K
         try go_frame
         refine tkv 7 (h:=tkv 8 (h:=?_))
         refine tkn 9 (h:=tkn 10 (h:=tkn 11 (h:=tkn 12 (h:=tkn 13 (h:=tkn 14 (h:=?_))))))
         refine tkn 15 (h:=tkn 16 (h:=tkn 17 (h:=tkn 18 (h:=tkn 19 (h:=tkn 20 (h:=?_))))))
         refine tkn 21 (h:=tkn 22 (h:=tkn 23 (h:=tkn 24 (h:=tkn 25 (h:=tkn 26 (h:=?_))))))
         refine tkv 27 (h:=?_)
         refine wpAnyH_done (by kernel_rfl) ?_ _
         go_wp2_with fail
         go_ret;exact ⟨by rw [hv.out];rfl,hbw1.trans ((hbel.drew.trans (hb3.mono hbel.drew.size)).mono (by omega))⟩
        | true =>
         have HIN':Hid (fromK x.attrs (k+1)=R):=HIN.out
         go_wp2_with fail;refine wp_region_held_drew (S:=fun w'=>Below w1.heap.size w1 w'∧w'.cell? ⟨w.heap.size,4,none⟩=some (.slice (some ad) x.attrs.length c)∧w'.cell? (ad.add (k * 2))=some (.string ⟨a.name.toArray⟩)) (by kernel_rfl) (HS.out _ hbel.drew) (fun hHeld=>?_)
         refine tkv 0 (h:=tkv 1 (h:=tkv 2 (h:=tkv 3 (h:=tkv 4 (h:=tkv 5 (h:=?_))))))
         refine rdy 6 (fun K hK=>?_)
         go_simp
         refine (zCT _ _ hnm _ hq).mono ?_;rintro e w3 ⟨rfl,hb3⟩
         go_wp2_with fail;refine hK.out _ _ (HS.out _ (hbel.drew.trans (hb3.mono hbel.drew.size))) (fun hHeld=>?_)
         clear hK K
         try go_frame
         refine tkv 7 (h:=tkv 8 (h:=tkv 9 (h:=tkv 10 (h:=tkv 11 (h:=?_)))))
         refine tkn 12 (h:=tkn 13 (h:=tkn 14 (h:=tkn 15 (h:=tkn 16 (h:=tkn 17 (h:=?_))))))
         refine tkn 18 (h:=tkn 19 (h:=tkn 20 (h:=tkn 21 (h:=tkn 22 (h:=tkn 23 (h:=?_))))))
         refine tkn 24 (h:=tkn 25 (h:=?_))
         refine tkv 26 (h:=tkv 27 (h:=?_))
         refine wpAnyH_done (by kernel_rfl) ?_ _
         have hb3':=hbel.drew.trans (hb3.mono hbel.drew.size)
         go_wp2_with fail
         go_roundw
         case rel=>exact ⟨k+1,by omega,by go_num,HIN',hb3'⟩
         case measure=>simp [intOf];omega
       ·obtain ⟨p,hp⟩:∃ p,Hid (x.attrs[k-1]? = some p):=⟨x.attrs[k-1],List.getElem?_eq_getElem _⟩
        have hin':=hin.out
        have hin':(nameL a.name && !leB a.name p.name && fromK x.attrs (k+1))=R:=by
         rw [← hin',zIR _ k p a hk0 hp.out ha.out]
        obtain ⟨q,hq⟩:∃ q,Hid (nameL a.name=q):=⟨_,rfl⟩
        rw [hq.out] at hin';have hg1:decide ((0:Int)<(k:Int))=true:=by simp;omega
        have hg2:decide (0<k)=true:=by simp;omega
        have hk0':(0:Int)≤(k:Int):=Int.natCast_nonneg _
        have hk1:(0:Int)≤(k:Int)-1:=by omega
        have hk3:(1:Int)≤(k:Int):=by omega
        have hk2:(k:Int)-1<x.attrs.length:=by omega
        have HS:Hid (∀ w',Below w1.heap.size w1 w'→(Below w1.heap.size w1 w'∧w'.cell? ⟨w.heap.size,4,none⟩=some (.slice (some ad) x.attrs.length c)∧w'.cell? (ad.add (k * 2))=some (.string ⟨a.name.toArray⟩)∧w'.cell? (ad.add ((k-1) * 2))=some (.string ⟨p.name.toArray⟩))) :=
         fun w' hb=>⟨hb,H4.out w' hb,HCC.out k a ha.out w' hb,HCC.out (k-1) p hp.out w' hb⟩
        obtain ⟨l,hl⟩:∃ l,Hid (leB a.name p.name=l):=⟨_,rfl⟩
        rw [hl.out] at hin';have HIN:=Lib.hid hin'
        clear hin';have hkw:IntKind.i64.wrap ((k:Int)-1)=(k:Int)-1:=IntWalk.i64_in _ (by omega)
        have hkn:((k:Int)-1).toNat=k-1:=by omega
        cases q with
        | false =>
         have hv:Hid (V=63):=by
          show _=_
          have hR0:R=false:=by rw [← HIN.out];rfl
          rw [← HV.out,hR0];rfl
         go_wp2_with fail;refine wp_region_held_drew (S:=fun w'=>Below w1.heap.size w1 w'∧w'.cell? ⟨w.heap.size,4,none⟩=some (.slice (some ad) x.attrs.length c)∧w'.cell? (ad.add (k * 2))=some (.string ⟨a.name.toArray⟩)∧w'.cell? (ad.add ((k-1) * 2))=some (.string ⟨p.name.toArray⟩)) (by kernel_rfl) (HS.out _ hbel.drew) (fun hHeld=>?_)
         refine tkv 0 (h:=tkv 1 (h:=tkv 2 (h:=tkv 3 (h:=tkv 4 (h:=tkv 5 (h:=?_))))))
         refine rdy 6 (fun K hK=>?_)
         go_simp
         refine (zCT _ _ hnm _ hq).mono ?_;rintro e w3 ⟨rfl,hb3⟩
         go_wp2_with fail;refine hK.out _ _ (HS.out _ (hbel.drew.trans (hb3.mono hbel.drew.size))) (fun hHeld=>?_)
         clear hK K
         try go_frame
         refine tkv 7 (h:=tkv 8 (h:=?_))
         refine tkn 9 (h:=tkn 10 (h:=tkn 11 (h:=tkn 12 (h:=tkn 13 (h:=tkn 14 (h:=?_))))))
         refine tkn 15 (h:=tkn 16 (h:=tkn 17 (h:=tkn 18 (h:=tkn 19 (h:=tkn 20 (h:=?_))))))
         refine tkn 21 (h:=tkn 22 (h:=tkn 23 (h:=tkn 24 (h:=tkn 25 (h:=tkn 26 (h:=?_))))))
         refine tkv 27 (h:=?_)
         refine wpAnyH_done (by kernel_rfl) ?_ _
         clear hkw hkn
         go_wp2_with fail
         go_ret;exact ⟨by rw [hv.out];rfl,hbw1.trans ((hbel.drew.trans (hb3.mono hbel.drew.size)).mono (by omega))⟩
        | true =>
         have hl1:=hl.out
         unfold leB at hl1;cases l with
         | true =>
          have hv:Hid (V=63):=by
           show _=_
           have hR0:R=false:=by rw [← HIN.out];rfl
           rw [← HV.out,hR0];rfl
          go_wp2_with fail;refine wp_region_held_drew (S:=fun w'=>Below w1.heap.size w1 w'∧w'.cell? ⟨w.heap.size,4,none⟩=some (.slice (some ad) x.attrs.length c)∧w'.cell? (ad.add (k * 2))=some (.string ⟨a.name.toArray⟩)∧w'.cell? (ad.add ((k-1) * 2))=some (.string ⟨p.name.toArray⟩)) (by kernel_rfl) (HS.out _ hbel.drew) (fun hHeld=>?_)
          refine tkv 0 (h:=tkv 1 (h:=tkv 2 (h:=tkv 3 (h:=tkv 4 (h:=tkv 5 (h:=?_))))))
          refine rdy 6 (fun K hK=>?_)
          go_simp
          refine (zCT _ _ hnm _ hq).mono ?_;rintro e w3 ⟨rfl,hb3⟩
          go_wp2_with fail;refine hK.out _ _ (HS.out _ (hbel.drew.trans (hb3.mono hbel.drew.size))) (fun hHeld=>?_)
          clear hK K
          try go_frame
          refine tkv 7 (h:=tkv 8 (h:=tkv 9 (h:=tkv 10 (h:=tkv 11 (h:=tkv 12 (h:=?_))))))
          refine tkv 13 (h:=tkv 14 (h:=tkv 15 (h:=tkv 16 (h:=tkv 17 (h:=tkv 18 (h:=?_))))))
          refine tkv 19 (h:=tkv 20 (h:=tkv 21 (h:=tkv 22 (h:=tkv 23 (h:=tkv 24 (h:=?_))))))
          refine tkv 25 (h:=tkv 26 (h:=tkv 27 (h:=?_)))
          refine wpAnyH_done (by kernel_rfl) ?_ _
          clear hkw hkn
          go_wp2_with fail
          go_ret;exact ⟨by rw [hv.out];rfl,hbw1.trans ((hbel.drew.trans (hb3.mono hbel.drew.size)).mono (by omega))⟩
         | false =>
          have HIN':Hid (fromK x.attrs (k+1)=R):=HIN.out
          go_wp2_with fail;refine wp_region_held_drew (S:=fun w'=>Below w1.heap.size w1 w'∧w'.cell? ⟨w.heap.size,4,none⟩=some (.slice (some ad) x.attrs.length c)∧w'.cell? (ad.add (k * 2))=some (.string ⟨a.name.toArray⟩)∧w'.cell? (ad.add ((k-1) * 2))=some (.string ⟨p.name.toArray⟩)) (by kernel_rfl) (HS.out _ hbel.drew) (fun hHeld=>?_)
          refine tkv 0 (h:=tkv 1 (h:=tkv 2 (h:=tkv 3 (h:=tkv 4 (h:=tkv 5 (h:=?_))))))
          refine rdy 6 (fun K hK=>?_)
          go_simp
          refine (zCT _ _ hnm _ hq).mono ?_;rintro e w3 ⟨rfl,hb3⟩
          go_wp2_with fail;refine hK.out _ _ (HS.out _ (hbel.drew.trans (hb3.mono hbel.drew.size))) (fun hHeld=>?_)
          clear hK K
          try go_frame
          refine tkv 7 (h:=tkv 8 (h:=tkv 9 (h:=tkv 10 (h:=tkv 11 (h:=tkv 12 (h:=?_))))))
          refine tkv 13 (h:=tkv 14 (h:=tkv 15 (h:=tkv 16 (h:=tkv 17 (h:=tkv 18 (h:=?_))))))
          refine tkv 19 (h:=tkv 20 (h:=tkv 21 (h:=tkv 22 (h:=tkv 23 (h:=tkv 24 (h:=?_))))))
          refine tkv 25 (h:=tkv 26 (h:=tkv 27 (h:=?_)))
          refine wpAnyH_done (by kernel_rfl) ?_ _
          have hb3':=hbel.drew.trans (hb3.mono hbel.drew.size)
          clear hkw hkn hl1
          go_wp2_with fail
          go_roundw
          case rel=>exact ⟨k+1,by omega,by go_num,HIN',hb3'⟩
          case measure=>simp [intOf];omega
      ·have hk':k=x.attrs.length:=by omega
       have hR1:R=true:=by rw [← hin.out,hk',zJW]
       have hV1:=HV.out
       rw [hR1] at hV1;simp only [if_true] at hV1;subst hk';clear hin hlt hk;by_cases hbig:20<x.attrs.length
       ·have hv:Hid (V=67):=by
         show _=_
         rw [← hV1,if_pos hbig];rfl
        clear hV1
        go_wp2_with fail
        go_ret;exact ⟨by rw [hv.out];rfl,hbwr⟩
       ·rw [if_neg hbig,if_pos rfl] at hV1
        have HV1:=Lib.hid hV1
        clear hV1
        go_wp2_with fail
        go_loopw [4] (fun i wr=>∃ (k:Nat),k≤x.attrs.length∧i=.int .i64 k∧Hid (valuesE (x.attrs.drop k)=V)∧Below w1.heap.size w1 wr) (fun i _=>x.attrs.length-(intOf i).toNat)
        case atStart=>exact ⟨0,Nat.zero_le _,rfl,HV1,hbel⟩
        case round =>
         obtain ⟨k,hk,rfl,hin,hbel⟩:=hrel
         have hzr:=hbel.size
         have hbwr:Below w.heap.size w wr:=hbw1.trans (hbel.mono (by omega))
         have hc4r:=H4.out wr hbel
         by_cases hlt:k<x.attrs.length
         ·obtain ⟨a,ha⟩:∃ a,Hid (x.attrs[k]? = some a):=⟨x.attrs[k],List.getElem?_eq_getElem _⟩
          obtain ⟨ad,hAd,hbl,hcs⟩:=(HA.out.below hbwr) (by omega)
          have hc1:=(hcs k a ha.out).2
          unfold strV at hc1;clear hcs;have hnm:=(HS4.out k a ha.out).2
          subst hAd;have hlt':(k:Int)<x.attrs.length:=by omega
          have hin':=hin.out
          rw [zAY ha.out,valuesE] at hin';obtain ⟨q,hq⟩:∃ q,Hid (charsE a.value=q):=⟨_,rfl⟩
          rw [hq.out] at hin';by_cases hq0:q=0
          ·rw [if_pos hq0] at hin'
           have HIN:=Lib.hid hin'
           subst hq0;clear hin' hin
           go_wp2_with fail;refine (zFg _ _ hnm _ hq).mono ?_;rintro e w3 ⟨rfl,hb3⟩;have hb3':=hbel.trans (hb3.mono hbel.size)
           go_wp2_with fail
           go_roundw
           case rel=>exact ⟨k+1,by omega,by go_num,HIN,hb3'⟩
           case measure=>simp [intOf];omega
          ·rw [if_neg hq0] at hin'
           have HIN:=Lib.hid hin'
           have e6:(q != 0)=true:=by simp [hq0]
           clear hin' hin hq0
           go_wp2_with fail;refine (zFg _ _ hnm _ hq).mono ?_;rintro e w3 ⟨rfl,hb3⟩;have hb3':=hbel.trans (hb3.mono hbel.size)
           go_wp2_with fail
           go_ret;exact ⟨by rw [← HIN.out];rfl,hbw1.trans (hb3'.mono (by omega))⟩
         ·have hk':k=x.attrs.length:=by omega
          have hv:Hid (V=0):=by
           show _=_
           rw [← hin.out,List.drop_eq_nil_of_le (by omega)];rfl
          subst hk';clear hin hlt hk
          go_wp2_with fail
          go_ret;exact ⟨by rw [hv.out];rfl,hbwr⟩
   ·have e5:(x.text == [])=false:=by simp [k3]
    have hv:Hid (V=68):=by show _=_;rw [← hV',if_pos (.inr k3)]
    clear hV' k1 k2 k3;unfold itemVal strV
    go_enter Tryz.func106,Tryz.ntmps106
    go_wp2_with fail
    go_ret;exact ⟨by rw [hv.out];rfl,(Below.refl _ w).alloc (Nat.le_refl _) _⟩
  ·have e4:(x.kind != 1)=true:=by simp [k2]
   have hv:Hid (V=68):=by show _=_;rw [← hV',if_pos (.inl k2)]
   clear hV' k1 k2;unfold itemVal strV
   go_enter Tryz.func106,Tryz.ntmps106
   go_wp2_with fail
   go_ret;exact ⟨by rw [hv.out];rfl,(Below.refl _ w).alloc (Nat.le_refl _) _⟩
end
section
open Go.RowKit Go.Shelf
variable {X:Nat→Prop}
end
end Go.Proofs.YtcombcoilpmnkaaGreat

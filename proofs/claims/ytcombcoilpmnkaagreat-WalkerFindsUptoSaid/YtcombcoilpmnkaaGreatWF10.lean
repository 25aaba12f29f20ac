/-
  Texts of this claim, joined (by a program of the claim's author): LawPlain, InjPlain, LexPlain, SortPlain, LexLaw, LexLaw2, LexLaw3, BackTok.
-/
import Derived.Test.YtcombcoilpmnkaaGreatWF1
import Derived.Test.YtcombcoilpmnkaaGreatWF9
import Derived.Lib.Bytealg
import Derived.Sort.Statements
namespace Go.Proofs.YtcombcoilpmnkaaGreat
set_option maxRecDepth 100000
set_option maxHeartbeats 16000000
section
/-! ### Characters and their bytes -/
theorem zMb (c:Int):enc c≠[]:=by
 unfold enc
 repeat (first | split | simp)
theorem zEZ (n:Int) (h0:0≤n) (h1:n<256):((bt n).toNat:Int)=n:=zAf n h0 h1
theorem zK5 (c:Int) (hc:charB c=true) (r:List UInt8):nextL (enc c++r)=(c,(enc c).length):=by
 have hb:=zHi hc
 rcases (by omega:c<128∨(128≤c∧c<2048)∨(2048≤c∧c<65536)∨65536≤c) with h | ⟨h,h'⟩ | ⟨h,h'⟩ | h
 ·have he:enc c=[bt c]:=by unfold enc;rw [if_pos h]
  have h1:=zEZ c (by omega) (by omega)
  rw [he];show nextL (bt c :: r)=_
  simp only [nextL,h1];have e1:headN c=1:=by unfold headN;rw [if_pos h]
  have e2:headC c=c:=by unfold headC;rw [if_pos h]
  rw [e1,e2];simp [foldC,hc,he]
 ·have he:enc c=[bt (192+c / 64),bt (128+c % 64)]:=by unfold enc;rw [if_neg (by omega),if_pos (by omega)]
  have h1:=zEZ (192+c / 64) (by omega) (by omega)
  have h2:=zEZ (128+c % 64) (by omega) (by omega)
  rw [he];show nextL (bt (192+c / 64) :: bt (128+c % 64) :: r)=_
  simp only [nextL,h1];have e1:headN (192+c / 64)=2:=by unfold headN;repeat (first | rw [if_pos (by omega)] | rw [if_neg (by omega)])
  have e2:headC (192+c / 64)=c / 64:=by unfold headC;repeat (first | rw [if_pos (by omega)] | rw [if_neg (by omega)]);omega
  rw [e1,e2];have e3:foldC (c / 64) [bt (128+c % 64)]=c:=by simp only [foldC,List.foldl];rw [h2];omega
  have e4:contB (bt (128+c % 64))=true:=by unfold contB;rw [h2];simp;omega
  simp [e3,e4,hc,he]
 ·have he:enc c=[bt (224+c / 4096),bt (128+c / 64 % 64),bt (128+c % 64)]:=by unfold enc;rw [if_neg (by omega),if_neg (by omega),if_pos (by omega)]
  have h1:=zEZ (224+c / 4096) (by omega) (by omega)
  have h2:=zEZ (128+c / 64 % 64) (by omega) (by omega)
  have h3:=zEZ (128+c % 64) (by omega) (by omega)
  rw [he];show nextL (bt (224+c / 4096) :: bt (128+c / 64 % 64) :: bt (128+c % 64) :: r)=_
  simp only [nextL,h1];have e1:headN (224+c / 4096)=3:=by unfold headN;repeat (first | rw [if_pos (by omega)] | rw [if_neg (by omega)])
  have e2:headC (224+c / 4096)=c / 4096:=by unfold headC;repeat (first | rw [if_pos (by omega)] | rw [if_neg (by omega)]);omega
  rw [e1,e2];have e3:foldC (c / 4096) [bt (128+c / 64 % 64),bt (128+c % 64)]=c:=by simp only [foldC,List.foldl];rw [h2,h3];omega
  have e4:contB (bt (128+c / 64 % 64))=true:=by unfold contB;rw [h2];simp;omega
  have e5:contB (bt (128+c % 64))=true:=by unfold contB;rw [h3];simp;omega
  simp [e3,e4,e5,hc,he]
 ·have he:enc c=[bt (240+c / 262144),bt (128+c / 4096 % 64),bt (128+c / 64 % 64),bt (128+c % 64)]:=by unfold enc;rw [if_neg (by omega),if_neg (by omega),if_neg (by omega)]
  have h1:=zEZ (240+c / 262144) (by omega) (by omega)
  have h2:=zEZ (128+c / 4096 % 64) (by omega) (by omega)
  have h3:=zEZ (128+c / 64 % 64) (by omega) (by omega)
  have h4:=zEZ (128+c % 64) (by omega) (by omega)
  rw [he];show nextL (bt (240+c / 262144) :: bt (128+c / 4096 % 64) :: bt (128+c / 64 % 64) :: bt (128+c % 64) :: r)=_
  simp only [nextL,h1];have e1:headN (240+c / 262144)=4:=by unfold headN;repeat (first | rw [if_pos (by omega)] | rw [if_neg (by omega)])
  have e2:headC (240+c / 262144)=c / 262144:=by unfold headC;repeat (first | rw [if_pos (by omega)] | rw [if_neg (by omega)]);omega
  rw [e1,e2];have e3:foldC (c / 262144) [bt (128+c / 4096 % 64),bt (128+c / 64 % 64),bt (128+c % 64)]=c:=by simp only [foldC,List.foldl];rw [h2,h3,h4];omega
  have e4:contB (bt (128+c / 4096 % 64))=true:=by unfold contB;rw [h2];simp;omega
  have e5:contB (bt (128+c / 64 % 64))=true:=by unfold contB;rw [h3];simp;omega
  have e6:contB (bt (128+c % 64))=true:=by unfold contB;rw [h4];simp;omega
  simp [e3,e4,e5,e6,hc,he]
theorem zJu (l:List UInt8) (c:Int) (n:Nat) (h:nextL l=(c,n)) (hn:n≠0):charB c=true∧l=enc c++l.drop n∧n=(enc c).length:=by
 cases l with
 | nil =>
  have h2:(0:Nat)=n:=congrArg Prod.snd h
  omega
 | cons b t =>
  simp only [nextL] at h
  split at h
  ·injection h with _ h;omega
  ·rename_i h0
   split at h
   ·injection h with _ h;omega
   ·rename_i hlen
    split at h
    ·rename_i hg
     injection h with h1 h2
     rw [h1] at hg;simp only [Bool.and_eq_true] at hg;have he:=eq_of_beq hg.2.2
     rw [h2] at he;have hl:(enc c).length=n:=by rw [he,List.length_cons,List.length_take];omega
     refine ⟨hg.2.1,?_,hl.symm⟩
     rw [he];obtain ⟨m,rfl⟩:∃ m,n=m+1:=⟨n-1,by omega⟩
     simp
    ·injection h with _ h;omega
theorem zGC (cs:List Int) (h:cs.all charB=true):charsL (cs.flatMap enc)=some cs:=by
 induction cs with
 | nil=>rfl
 | cons c cs ih =>
  simp only [List.all_cons,Bool.and_eq_true] at h;have hn:=zK5 c h.1 (cs.flatMap enc)
  have hne:enc c≠[]:=zMb c
  rw [List.flatMap_cons,zA3 _ (by simp [hne]) (by rw [hn];simpa using hne),hn]
  simp [ih h.2]
theorem zEo (l:List UInt8) (cs:List Int) (h:charsL l=some cs):l=cs.flatMap enc∧cs.all charB=true:=by
 have key:∀ f (l:List UInt8) cs,l.length≤f→charsL l=some cs→l=cs.flatMap enc∧cs.all charB=true:=by
  intro f
  induction f with
  | zero =>
   intro l cs hl h;obtain rfl:l=[]:=List.eq_nil_of_length_eq_zero (by omega)
   rw [zA0] at h;injection h with h;subst h;exact ⟨rfl,rfl⟩
  | succ f ih =>
   intro l cs hl h;by_cases hnil:l=[]
   ·subst hnil;rw [zA0] at h;injection h with h;subst h;exact ⟨rfl,rfl⟩
   ·by_cases hn:(nextL l).2=0
    ·rw [zBa l hnil hn] at h;cases h
    ·rw [zA3 l hnil hn] at h
     obtain ⟨c,n,hq⟩:∃ c n,nextL l=(c,n):=⟨_,_,rfl⟩
     rw [hq] at hn h;simp only at hn h
     obtain ⟨hc,he,hlen⟩:=zJu l c n hq hn
     cases hr:charsL (l.drop n) with
     | none=>rw [hr] at h;cases h
     | some ds =>
      rw [hr] at h
      injection h with h
      have hp:0<l.length:=List.length_pos_iff.2 hnil
      obtain ⟨h1,h2⟩:=ih _ ds (by rw [List.length_drop];omega) hr
      subst h;refine ⟨?_,?_⟩
      ·rw [List.flatMap_cons,← h1];exact he
      ·rw [List.all_cons,hc,h2];rfl
 exact key l.length l cs (Nat.le_refl _) h
theorem zGB (a b:List UInt8) (cs ds:List Int) (ha:charsL a=some cs) (hb:charsL b=some ds):charsL (a++b)=some (cs++ds):=by
 obtain ⟨h1,h2⟩:=zEo a cs ha
 obtain ⟨h3,h4⟩:=zEo b ds hb
 rw [h1,h3,← List.flatMap_append];exact zGC _ (by rw [List.all_append,h2,h4];rfl)
def plainB (x:UInt8):Bool:=!(x == 60 || x == 62 || x == 34 || x == 9 || x == 10 || x == 13)
end
section
/-! Bytes. -/
def nb (b:UInt8):Bool:=!(b == 9 || b == 10 || b == 32 || b == 34 || b == 47 || b == 60 || b == 61 || b == 62)
structure AttrOk (a:AttrD):Prop where
 name:nameL a.name=true
 value:∃ o,escL true a.value=some o
inductive ItemOk (x:ItemD):Prop
 | text (k:x.kind=2) (n:x.name=[]) (a:x.attrs=[]) (t:∃ o,escL false x.text=some o)
 | elem (k:x.kind=1) (t:x.text=[]) (n:nameL x.name=true) (a:∀ y∈x.attrs,AttrOk y)
def endR (r:List UInt8):Prop:=r=[] ∨ ∃ t,r=60 :: 47 :: t
structure Forest (L:Int) (b:List ItemD):Prop where
 low:∀ y∈b,L≤y.level
 cap:capC L b
 ok:∀ y∈b,ItemOk y
 nf:NF b
theorem zGX:∀ (a b:List ItemD) (p:ItemD),nfP p (a++b)→nfP p a∧NF b
 | [],[],_,_=>⟨trivial,trivial⟩
 | [],x :: b,p,h=>⟨trivial,h.1,h.2.2⟩
 | x :: a,b,p,h=>by
  obtain ⟨h1,h2⟩:=zGX a b x h.2.2
  exact ⟨⟨h.1,h.2.1,h1⟩,h2⟩
theorem NF.tail {x:ItemD} {r:List ItemD} (h:NF (x :: r)):NF r:=by
 cases r with
 | nil=>trivial
 | cons y r=>exact ⟨h.2.1,h.2.2.2⟩
theorem NF.split {a b:List ItemD} (h:NF (a++b)):NF a∧NF b:=by
 cases a with
 | nil=>exact ⟨trivial,h⟩
 | cons x a =>
  obtain ⟨h1,h2⟩:=zGX a b x h.2
  exact ⟨⟨h.1,h1⟩,h2⟩
theorem Forest.head {L:Int} {x:ItemD} {r:List ItemD} (h:Forest L (x :: r)):x.level=L:=by
 have h1:=h.low x (by simp)
 have h2:=h.cap.1
 omega
end
section
def blankB (b:UInt8):Bool:=b == 32 || b == 9 || b == 10
structure TokD where
 kind:Int
 name:List UInt8
 text:List UInt8
 attrs:List AttrD
deriving DecidableEq
inductive Told (α:Type) where
 | ok (x:α) (n:Nat)
 | bad (k:Nat) (e:Int)
deriving DecidableEq
def Told.past {α:Type} (k:Nat):Told α→Told α
 | .ok x n=>.ok x (k+n)
 | .bad j e=>.bad (k+j) e
theorem Told.past_past {α:Type} (j k:Nat) (x:Told α):(x.past k).past j=x.past (j+k):=by
 cases x <;> simp [Told.past,Nat.add_assoc]
theorem Told.past_zero {α:Type} (x:Told α):x.past 0=x:=by
 cases x <;> simp [Told.past]
def wordL (l:List UInt8):List UInt8:=l.takeWhile nb
def skipL (l:List UInt8):Nat:=(l.takeWhile blankB).length
def textT (l:List UInt8):Told TokD :=
 let t:=l.takeWhile (· != 60)
 let u:=undoL false t
 if u.2.2≠0 then .bad u.2.1 u.2.2 else if 1500<u.1.length then .bad 0 34 else .ok ⟨4,[],u.1,[]⟩ t.length
def endT (l:List UInt8):Told TokD :=
 let n:=wordL l
 if nameL n=false then .bad 0 31
 else
  let k:=n.length+skipL (l.drop n.length)
  if pre [62] (l.drop k)=true then .ok ⟨2,n,[],[]⟩ (k+1) else .bad k 30
def insA (a:AttrD):List AttrD→List AttrD
 | []=>[a]
 | b :: r=>if Op.bytesLess a.name b.name then a :: b :: r else b :: insA a r
def sortA (l:List AttrD):List AttrD:=l.foldl (fun o a=>insA a o) []
def valueT (n:List UInt8) (l:List UInt8):Told AttrD :=
 let v:=l.takeWhile (· != 34)
 if v.length=l.length then .bad (n.length+2+v.length) 30
 else
  let u:=undoL true v
  if u.2.2≠0 then .bad (n.length+2+u.2.1) u.2.2 else if 1500<u.1.length then .bad (n.length+1) 34 else .ok ⟨n,u.1⟩ (n.length+2+v.length+1)
def attrL (l:List UInt8) (bs:List AttrD):Told AttrD :=
 let n:=wordL l
 if nameL n=false then .bad 0 31
 else if 20≤bs.length then .bad 0 33
 else if bs.any (fun a=>decide (a.name=n)) then .bad 0 32
 else if pre [61] (l.drop n.length)=false then .bad n.length 30
 else if pre [34] (l.drop (n.length+1))=false then .bad (n.length+1) 30
 else valueT n (l.drop (n.length+2))
def attrsF:Nat→List UInt8→List AttrD→Told (Int × List AttrD)
 | 0,_,_=>.bad 0 30
 | f+1,l,bs =>
  let b:=skipL l
  let r:=l.drop b
  if pre [62] r=true then .ok (1,bs) (b+1)
  else if pre [47,62] r=true then .ok (3,bs) (b+2)
  else if b=0∨r=[] then .bad b 30
  else match attrL r bs with
   | .bad k e=>.bad (b+k) e
   | .ok a n=>(attrsF f (r.drop n) (bs++[a])).past (b+n)
def beginT (l:List UInt8):Told TokD :=
 let n:=wordL l
 if nameL n=false then .bad 0 31
 else match attrsF (l.length+1) (l.drop n.length) [] with
  | .bad k e=>.bad (n.length+k) e
  | .ok q k=>.ok ⟨q.1,n,[],sortA q.2⟩ (n.length+k)
def oneT (l:List UInt8):Told TokD :=
 if pre [60,47] l=true then (endT (l.drop 2)).past 2
 else if pre [60] l=true then (beginT (l.drop 1)).past 1
 else textT l
def allF:Nat→Nat→List UInt8→List (Nat × TokD) × Nat × Int
 | 0,_,_=>([],0,0)
 | f+1,at_,l =>
  if l=[] then ([],0,0)
  else match oneT l with
   | .bad k e=>([],at_+k,e)
   | .ok t n =>
    let r:=allF f (at_+n) (l.drop n)
    if r.2.2=0 then ((at_,t) :: r.1,0,0) else ([],r.2.1,r.2.2)
/-! ## How far what is told may reach -/
theorem zA5 {α:Type} (p:α→Bool):∀ l:List α,(l.takeWhile p).length≤l.length
 | []=>by simp
 | a :: l=>by
  rw [List.takeWhile_cons]
  split
  ·have:=zA5 p l;simp;omega
  ·simp
theorem zH7 (v:Bool):∀ (f:Nat) (l:List UInt8),(undoF v f l).2.1≤l.length
 | 0,_=>by simp [undoF]
 | f+1,l=>by
  rw [undoF]
  split
  ·simp
  ·cases hs:stepL v l with
   | inl e=>simp
   | inr q =>
    obtain ⟨t,n⟩:=q
    have:=zCH hs
    have ih:=zH7 v f (l.drop n)
    rw [List.length_drop] at ih;simp only
    split <;> simp only <;> omega
theorem zFr (v:Bool) (l:List UInt8):(undoL v l).2.1≤l.length:=zH7 v _ l
theorem zBk {c:UInt8} {l:List UInt8} {k:Nat} (h:pre [c] (l.drop k)=true):k+1≤l.length:=by
 have:=zAU h
 rw [List.length_drop] at this;simp at this;omega
def Told.within {α:Type} (lo hi:Nat):Told α→Prop
 | .ok _ n=>lo≤n∧n≤hi
 | .bad k e=>k≤hi∧e≠0
def attrsL (l:List UInt8) (bs:List AttrD):Told (Int × List AttrD):=attrsF (l.length+1) l bs
def allL (at_:Nat) (l:List UInt8):List (Nat × TokD) × Nat × Int:=allF (l.length+1) at_ l
def joinT (acc:List (Nat × TokD)) (r:List (Nat × TokD) × Nat × Int):List (Nat × TokD) × Nat × Int :=
 if r.2.2=0 then (acc++r.1,0,0) else ([],r.2.1,r.2.2)
end
section
def nameC (a b:AttrD):Int:=Lib.compareBytes a.name b.name
def Rise (l:List AttrD):Prop:=l.Pairwise fun a b=>Op.bytesLess a.name b.name=true
def ApartS (l:List AttrD):Prop:=l.Pairwise fun a b=>a.name≠b.name
instance:Inhabited AttrD:=⟨⟨[],[]⟩⟩
structure AttrFine (a:AttrD):Prop where
 name:nameL a.name=true
 value:∃ l,(undoL true l).2.2=0∧(undoL true l).1=a.value
 long:a.value.length≤1500
structure AttrsFine (bs:List AttrD):Prop where
 apart:ApartS bs
 all:∀ a∈bs,AttrFine a
 many:bs.length≤20
end
section
/-! ## What stands behind is no matter -/
theorem zCG (l:List UInt8) (p:UInt8→Bool):l=l.takeWhile p++l.drop (l.takeWhile p).length:=by
 have h:=List.takeWhile_append_dropWhile (p:=p) (l:=l)
 have h2:l.dropWhile p=l.drop (l.takeWhile p).length:=by
  conv=>rhs;rw [← h]
  rw [show (List.takeWhile p (List.takeWhile p l++List.dropWhile p l))=List.takeWhile p l by rw [h]]
  rw [List.drop_append_of_le_length (Nat.le_refl _),List.drop_length,List.nil_append]
 rw [← h2,h]
theorem zDk {c:UInt8} {l:List UInt8} (h:pre [c] l=true):∃ t,l=c :: t:=by
 cases l with
 | nil=>simp [pre] at h
 | cons a t =>
  have:=eq_of_beq h
  simp at this
  exact ⟨t,by rw [this]⟩
end
section
/-! ## Blanks ahead of the end -/
def endB (e:List UInt8):Prop:=e=[62]∨e=[47,62]
end
section
theorem zFQ {v:Bool} {l t:List UInt8} {n:Nat} (h:stepL v l=.inr (t,n)):∃ c,charB c=true∧t=enc c:=by
 simp only [stepL] at h
 split at h
 ·cases h
 split at h
 ·cases h
 generalize (if (nextL l).fst=38 then refL l else nextL l)=r at h
 split at h
 ·cases h
 split at h
 ·cases h
 rename_i hc
 injection h with h
 injection h with h _
 have hc':charB r.1=true:=by simpa using hc
 refine ⟨_,hc',?_⟩
 rw [← h];unfold putF;rw [if_pos hc']
theorem zFD (v:Bool):∀ (k:Nat) (l:List UInt8),l.length≤k→(undoL v l).2.2=0 → ∃ cs,charsL (undoL v l).1=some cs
 | 0,l,hk,_=>by
  obtain rfl:l=[]:=List.eq_nil_of_length_eq_zero (by omega)
  rw [zBr];exact ⟨[],zA0⟩
 | k+1,l,hk,h=>by
  by_cases hl:l=[]
  ·subst hl;rw [zBr];exact ⟨[],zA0⟩
  ·cases hs:stepL v l with
   | inl e =>
    rw [zAL v l hl e hs] at h ⊢;exact ⟨[],zA0⟩
   | inr q =>
    obtain ⟨t,n⟩:=q
    have hp:=zCH hs
    rw [zA6 v l hl t n hs] at h ⊢;unfold joinU at h ⊢
    split at h
    ·rename_i h0
     rw [if_pos h0];obtain ⟨cs,hcs⟩:=zFD v k (l.drop n) (by rw [List.length_drop];omega) h0
     obtain ⟨c,hc,rfl⟩:=zFQ hs
     have he:charsL (enc c)=some [c]:=by
      have:=zGC [c] (by simp [hc])
      simpa using this
     exact ⟨[c]++cs,zGB _ _ _ _ he hcs⟩
    ·rename_i h0
     exact absurd h h0
inductive TokFine (l:List UInt8) (t:TokD) (n:Nat):Prop
 | text (hk:t.kind=4) (hn:t.name=[]) (ha:t.attrs=[]) (h60:pre [60] l=false) (hb:n=(l.takeWhile (· != 60)).length) (hu:(undoL false (l.takeWhile (· != 60))).2.2=0) (ht:t.text=(undoL false (l.takeWhile (· != 60))).1) (hl:t.text.length≤1500)
 | stop (hk:t.kind=2) (hn:nameL t.name=true) (ha:t.attrs=[]) (ht:t.text=[]) (h60:pre [60] l=true)
 | start (hk:t.kind=1∨t.kind=3) (hn:nameL t.name=true) (ht:t.text=[]) (h60:pre [60] l=true) (bs:List AttrD) (ha:t.attrs=sortA bs) (hf:AttrsFine bs)
end
section
theorem zA4 (a r:List UInt8):pre a (a++r)=true:=by
 unfold pre;simp
end
end Go.Proofs.YtcombcoilpmnkaaGreat

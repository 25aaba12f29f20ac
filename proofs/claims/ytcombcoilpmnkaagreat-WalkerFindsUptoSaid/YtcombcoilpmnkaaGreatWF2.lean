/-
  Texts of this claim, joined (by a program of the claim's author): GMap, CheckPlain, GFo, Items, Starts, Start, Part, Name, Names, OwnS, OwnA, GTree, GRange.
-/
import Derived.Test.YtcombcoilpmnkaaGreatRows
import Derived.Test.YtcombcoilpmnkaaGreatWF1
import Derived.Maps.OwnSet
import Derived.Maps.Own
import Derived.Below
import Derived.Laws.OwnMore
import Derived.Deep.AppendLies
import Derived.Deep.Draws
import Derived.Laws.Rows
import Derived.Deep.WholeRow
import Derived.Laws.StructEq
import Derived.RangeFuncNested
import Derived.RangeFuncBound
import Derived.RangeFuncCalls
import Derived.RangeFuncLeaves
import Derived.Shelf.Abstract
import Derived.Shelf.RegionOpen
import Derived.OwnWalkIn
import Derived.TacticsInMore
import Derived.LoopNIn
import Derived.LoopIn
namespace Go.Proofs.YtcombcoilpmnkaaGreat
set_option maxRecDepth 100000
set_option maxHeartbeats 16000000
section
open Go.RowKit Go.Maps
def ptrElem:Value→Option (DataW Unit × List MemPlace)
 | .pointer none=>some (.nil,[])
 | .pointer (some ⟨b,0,none⟩)=>some (.lit (.int .i64 b),[])
 | _=>none
theorem zEF {v:Value} {ps:List MemPlace} (h:ptrElem v=some (.nil,ps)):v=.pointer none:=by
 unfold ptrElem at h
 split at h
 ·rfl
 ·injection h with h;injection h with h _;cases h
 ·cases h
theorem zEE {v:Value} {b:Nat} {ps:List MemPlace} (h:ptrElem v=some (.lit (.int .i64 b),ps)):v=.pointer (some ⟨b,0,none⟩):=by
 unfold ptrElem at h
 split at h
 ·injection h with h;injection h with h _;cases h
 ·injection h with h;injection h with h _;injection h with h;injection h with _ h
  rw [Int.ofNat.inj h]
 ·cases h
def ptrOf (o:Option Nat):Value:=.pointer (o.map fun b=>⟨b,0,none⟩)
def wfI (a:Int):Prop:=-9223372036854775808≤a∧a≤9223372036854775807
theorem wfI.lit {a:Int} (h:wfI a):(Lit.int .i64 a).wf=true:=by
 obtain ⟨h1,h2⟩:=h
 simp [Lit.wf,IntKind.min,IntKind.max,IntKind.signed,IntKind.bits]
 omega
theorem zMP {a:Int} (h:wfI a):keyOf Tryz.prog 3 (.int .i64 a)=some (.int .i64 a):=keyOf_int_mk Tryz.underlying3 h.lit
theorem zDS:Keyed Tryz.prog 3:=int_keyed Tryz.underlying3
theorem zJi {a:Int}:WideAt.IsKeyLit (.int .i64 a):=by simp [WideAt.IsKeyLit]
def MapG (w:World) (mb:Nat) (f:Int→Option Nat) (n:Nat):Prop :=
 ∃ D,w.ownsMap (H:=Unit) Tryz.prog 3 ptrElem mb n D∧size D=n ∧ ∀ id,wfI id→(f id=none→has D (.int .i64 id)=false) ∧ ∀ b,f id=some b → ∀ z,D.atKey (.int .i64 id) z=.lit (.int .i64 b)
theorem MapG.exact {w:World} {mb n:Nat} {D:DataW Unit} (h:w.ownsMap Tryz.prog 3 ptrElem mb n D):w.ownsMap Tryz.prog 3 ptrElem mb (size D) D:=by
 obtain ⟨es,clock,hb,F,_,hD⟩:=h
 refine ⟨es,clock,hb,F,?_,hD⟩
 subst hD;rw [size_eq,length_read];exact Nat.le_refl _
theorem MapG.new (w:World):MapG (w.alloc (.map #[] 0)) w.heap.size (fun _=>none) 0 :=
 ⟨.map [],World.ownsMap_made _ _ _ _,rfl,fun _ _=>⟨fun _=>rfl,fun _ h=>by cases h⟩⟩
theorem zKT (w:World):(zeroValue 91).run Tryz.prog w=.ok (.pointer none) w:=Tryz.zeroValue91 w
section
variable {w:World} {mb n:Nat} {f:Int→Option Nat}
theorem MapG.keep {w':World} (h:MapG w mb f n) (hk:w'.heap[mb]? = w.heap[mb]?):MapG w' mb f n:=by
 obtain ⟨D,⟨es,clock,hb,F,hs,hD⟩,hr⟩:=h
 exact ⟨D,⟨es,clock,hk.trans hb,F,hs,hD⟩,hr⟩
theorem MapG.lt (h:MapG w mb f n):mb<w.heap.size:=by
 obtain ⟨D,h,_⟩:=h
 exact h.lt
theorem MapG.obj (h:MapG w mb f n):∃ es clock,w.heap[mb]? = some (.map es clock):=by
 obtain ⟨D,⟨es,clock,hb,_⟩,_⟩:=h
 exact ⟨es,clock,hb⟩
theorem MapG.look_ok (h:MapG w mb f n) {id:Int} (hw:wfI id):(Instr.lookup 93 (.map (some mb)) (.int .i64 id) true).run Tryz.prog w=.ok (.tuple #[ptrOf (f id),.bool (f id).isSome]) w:=by
 obtain ⟨D,h,_,hf⟩:=h
 obtain ⟨v,ps,hr,hv⟩:=h.look_ok zDS Tryz.underlying93 (zKT w) (zd:=.nil) (zp:=[]) rfl (zMP hw)
 rw [hr];obtain ⟨h1,h2⟩:=hf id hw
 cases hc:f id with
 | none =>
  rw [atKey_of_not_has (h1 hc)] at hv;rw [h1 hc];rw [zEF hv];rfl
 | some b =>
  rw [h2 b hc] at hv;rw [zEE hv,has_true_of_atKey (h2 b hc)];rfl
theorem MapG.look (h:MapG w mb f n) {id:Int} (hw:wfI id):(Instr.lookup 93 (.map (some mb)) (.int .i64 id) false).run Tryz.prog w=.ok (ptrOf (f id)) w:=by
 obtain ⟨D,h,_,hf⟩:=h
 obtain ⟨v,ps,hr,hv⟩:=h.lookup zDS Tryz.underlying93 (zKT w) (zd:=.nil) (zp:=[]) rfl (zMP hw)
 rw [hr];obtain ⟨h1,h2⟩:=hf id hw
 cases hc:f id with
 | none =>
  rw [atKey_of_not_has (h1 hc)] at hv;rw [zEF hv];rfl
 | some b =>
  rw [h2 b hc] at hv;rw [zEE hv];rfl
theorem MapG.len (h:MapG w mb f n) (ty:TypeId):(Builtin.len_ #[93] ty #[.map (some mb)]).run Tryz.prog w=.ok (.int .i64 n) w:=by
 obtain ⟨D,h,hn,_⟩:=h
 rw [h.len Tryz.underlying93 ty,hn]
def fset {α:Type} (f:Int→α) (id:Int) (o:α):Int→α:=fun x=>if x=id then o else f x
theorem zAN {α:Type} (f:Int→α) (id:Int) (o:α):fset f id o id=o:=if_pos rfl
theorem zAQ {α:Type} (f:Int→α) {id x:Int} (o:α) (h:x≠id):fset f id o x=f x:=if_neg h
theorem zGS {a b:Int} (h:a≠b):Lit.int .i64 a≠Lit.int .i64 b:=fun e=>by injection e with _ e;exact h e
theorem MapG.put (h:MapG w mb f n) {id:Int} (hw:wfI id) (hn:n<maxLen) (hno:f id=none) (b:Nat) :
  ∃ w',(Instr.mapUpdate 93 (.map (some mb)) (.int .i64 id) (.pointer (some ⟨b,0,none⟩))).run Tryz.prog w=.ok () w'∧MapG w' mb (fset f id (some b)) (n+1)∧w.grownBy w' (some mb):=by
 obtain ⟨D,h,hs,hf⟩:=h
 obtain ⟨w',hr,ho,hg⟩:=h.update zDS Tryz.underlying93 hn (zMP hw) (d:=.lit (.int .i64 b)) (ps:=[]) (val:=.pointer (some ⟨b,0,none⟩)) rfl
 have hhas:has D (.int .i64 id)=false:=(hf id hw).1 hno
 refine ⟨w',hr,⟨_,ho,?_,fun x hx=>?_⟩,hg⟩
 ·rw [size_put (h.tidy zDS),hhas,if_neg (by decide),hs]
 ·unfold fset
  by_cases e:x=id
  ·subst e
   rw [if_pos rfl];exact ⟨fun h0=>absurd h0 (by simp),fun b' e z=>by
    obtain rfl:=Option.some.inj e
    exact atKey_put_same h.isMap zJi _ z⟩
  ·rw [if_neg e]
   exact ⟨fun h'=>by rw [has_put_other (zGS e)];exact (hf x hx).1 h',fun b' h' z=>by rw [atKey_put_other (zGS e)];exact (hf x hx).2 b' h' z⟩
theorem MapG.del (h:MapG w mb f n) {id:Int} (hw:wfI id) (hyes:(f id).isSome=true) (ty:TypeId) :
  ∃ w',(Builtin.delete_ #[93,3] ty #[.map (some mb),.int .i64 id]).run Tryz.prog w=.ok (.tuple #[]) w'∧MapG w' mb (fset f id none) (n-1)∧w.grownBy w' (some mb):=by
 obtain ⟨D,h,hs,hf⟩:=h
 obtain ⟨w',hr,ho,ht⟩:=h.drop zDS Tryz.underlying93 (zMP hw) ty
 obtain ⟨b,hb⟩:=Option.isSome_iff_exists.1 hyes
 have hhas:has D (.int .i64 id)=true:=has_true_of_atKey ((hf id hw).2 b hb)
 have hsz:size (D.del (.int .i64 id))=n-1:=by
  have:=size_del (h.tidy zDS) (k:=.int .i64 id)
  rw [hhas,if_pos rfl,hs] at this;omega
 refine ⟨w',hr,⟨_,by rw [← hsz];exact MapG.exact ho,hsz,fun x hx=>?_⟩,ht.grown⟩
 unfold fset;by_cases e:x=id
 ·subst e
  rw [if_pos rfl];exact ⟨fun _=>has_del_same,fun b' h'=>by cases h'⟩
 ·rw [if_neg e]
  exact ⟨fun h'=>by rw [has_del_other (zGS e)];exact (hf x hx).1 h',fun b' h' z=>by rw [atKey_del_other (zGS e)];exact (hf x hx).2 b' h' z⟩
end
end
section
def prevOf (l:List ItemD) (k:Nat):Option ItemD:=if k=0 then none else l[k-1]?
def SmallItem (x:ItemD):Prop:=x.name.length≤1000000000∧x.text.length≤1000000000∧x.attrs.length≤1000000000∧(∀ (k:Nat) (a:AttrD),x.attrs[k]? = some a→a.name.length≤1000000000∧a.value.length≤1000000000)∧(-9223372036854775808≤x.level∧x.level≤9223372036854775807)
theorem zAY {α:Type} {l:List α} {k:Nat} {a:α} (h:l[k]? = some a):l.drop k=a :: l.drop (k+1):=by
 have hl:k<l.length:=(List.getElem?_eq_some_iff.1 h).1
 rw [List.drop_eq_getElem_cons hl];rw [List.getElem?_eq_getElem hl] at h
 injection h with h;rw [h]
theorem zCc {prev:Option ItemD} {k:Nat} {x:ItemD} (h:placeE prev k x=0):0≤x.level∧x.level<40:=by
 unfold placeE at h;cases prev with
 | none =>
  simp only at h
  split at h
  ·omega
  ·omega
 | some p =>
  simp only at h
  split at h
  ·omega
  split at h
  ·omega
  ·omega
theorem zCA {prev:Option ItemD} {k:Nat} {x:ItemD} (h:oneE prev k x=0):placeE prev k x=0∧partsE x=0:=by
 unfold oneE at h;by_cases hp:placeE prev k x=0
 ·rw [if_pos hp] at h;exact ⟨hp,h⟩
 ·rw [if_neg hp] at h;exact absurd h hp
theorem zBv {l:List ItemD} {k:Nat} {x:ItemD} (hx:l[k]? = some x):prevOf l (k+1)=some x:=by
 unfold prevOf;rw [if_neg (by omega)];exact hx
theorem zDu {l:List ItemD} {k:Nat} {x:ItemD} (hx:l[k]? = some x):checkF (prevOf l k) k (l.drop k)=if oneE (prevOf l k) k x=0 then checkF (prevOf l (k+1)) (k+1) (l.drop (k+1)) else ((k:Int),oneE (prevOf l k) k x):=by
 rw [zAY hx,zBv hx];rfl
def SmallItems (l:List ItemD):Prop:=l.length≤1000000000 ∧ ∀ (k:Nat) (x:ItemD),l[k]? = some x→SmallItem x
end
section
structure NodeD where
 kind:Int
 name:List UInt8
 text:List UInt8
 attrs:List AttrD
deriving DecidableEq
structure RowD where
 id:Int
 x:ItemD
deriving DecidableEq
def NodeD.at (d:NodeD) (lv:Int):ItemD:=⟨lv,d.kind,d.name,d.text,d.attrs⟩
def ItemD.node (x:ItemD):NodeD:=⟨x.kind,x.name,x.text,x.attrs⟩
theorem zCm (d:NodeD) (lv:Int):(d.at lv).level=lv:=rfl
theorem zJE (d:NodeD) (lv:Int):(d.at lv).node=d:=rfl
theorem zL7 (x:ItemD):x.node.at x.level=x:=rfl
inductive Fo where
 | nil
 | cons (id:Int) (d:NodeD) (ks r:Fo)
namespace Fo
def flat:Int→Fo→List RowD
 | _,nil=>[]
 | lv,cons id d ks r=>⟨id,d.at lv⟩ :: (flat (lv+1) ks++flat lv r)
def ids:Fo→List Int
 | nil=>[]
 | cons id _ ks r=>id :: (ids ks++ids r)
def roots:Fo→List Int
 | nil=>[]
 | cons id _ _ r=>id :: roots r
def cnt:Fo→Nat
 | nil=>0
 | cons _ _ ks r=>1+cnt ks+cnt r
def app:Fo→Fo→Fo
 | nil,g=>g
 | cons id d ks r,g=>cons id d ks (app r g)
def insAt:Nat→Fo→Fo→Fo
 | 0,new,f=>app new f
 | _+1,new,nil=>new
 | n+1,new,cons id d ks r=>cons id d ks (insAt n new r)
def upd (p:Int) (g:Fo→Fo):Fo→Fo
 | nil=>nil
 | cons id d ks r=>if id=p then cons id d (g ks) r else cons id d (upd p g ks) (upd p g r)
def setD (p:Int) (h:NodeD→NodeD):Fo→Fo
 | nil=>nil
 | cons id d ks r=>if id=p then cons id (h d) ks r else cons id d (setD p h ks) (setD p h r)
def del (p:Int):Fo→Fo
 | nil=>nil
 | cons id d ks r=>if id=p then r else cons id d (del p ks) (del p r)
def sub (p:Int):Int→Fo→Option (Int × NodeD × Fo)
 | _,nil=>none
 | lv,cons id d ks r=>if id=p then some (lv,d,ks) else match sub p (lv+1) ks with
  | some x=>some x
  | none=>sub p lv r
def par (p:Int):Int→Fo→Option Int
 | _,nil=>none
 | q,cons id _ ks r=>if id=p then some q else match par p id ks with
  | some x=>some x
  | none=>par p q r
theorem flat_ids:∀ (f:Fo) (lv:Int),(f.flat lv).map (·.id)=f.ids
 | nil,_=>rfl
 | cons id d ks r,lv=>by simp [flat,ids,flat_ids ks,flat_ids r]
theorem flat_len:∀ (f:Fo) (lv:Int),(f.flat lv).length=f.cnt
 | nil,_=>rfl
 | cons id d ks r,lv=>by simp [flat,cnt,flat_len ks,flat_len r];omega
theorem ids_len (f:Fo):f.ids.length=f.cnt:=by rw [← flat_ids f 0,List.length_map,flat_len]
theorem flat_app:∀ (f g:Fo) (lv:Int),(app f g).flat lv=f.flat lv++g.flat lv
 | nil,_,_=>rfl
 | cons id d ks r,g,lv=>by simp [app,flat,flat_app r]
theorem app_nil:∀ (f:Fo),app f nil=f
 | nil=>rfl
 | cons id d ks r=>by rw [app,app_nil r]
theorem flat_ge:∀ (f:Fo) (lv:Int),∀ r∈f.flat lv,lv≤r.x.level
 | nil,_,_,h=>by cases h
 | cons id d ks r,lv,x,h=>by
  rw [flat] at h;rcases List.mem_cons.1 h with rfl | h
  ·exact Int.le_refl _
  rcases List.mem_append.1 h with h | h
  ·have:=flat_ge ks (lv+1) x h;omega
  ·exact flat_ge r lv x h
theorem zGF:∀ (f:Fo) (lv:Int),∀ r∈(f.flat lv).head?,r.x.level=lv
 | nil,_,_,h=>by cases h
 | cons id d ks r,lv,x,h=>by simp [flat] at h;subst h;rfl
theorem flat_shift:∀ (f:Fo) (lv k:Int),(f.flat lv).map (fun r=>(⟨r.id,{ r.x with level:=r.x.level-k }⟩:RowD))=f.flat (lv-k)
 | nil,_,_=>rfl
 | cons id d ks r,lv,k=>by
  rw [flat,flat,List.map_cons,List.map_append,flat_shift ks,flat_shift r,show lv+1-k=lv-k+1 by omega]
  rfl
theorem insAt_flat:∀ (n:Nat) (new f:Fo),∃ A B:Fo,f=app A B∧(insAt n new f)=app A (app new B)∧A.roots=f.roots.take n∧B.roots=f.roots.drop n
 | 0,new,f=>⟨nil,f,rfl,rfl,rfl,rfl⟩
 | n+1,new,nil=>⟨nil,nil,rfl,by rw [insAt];exact (app_nil new).symm,rfl,rfl⟩
 | n+1,new,cons id d ks r=>by
  obtain ⟨A,B,h1,h2,h3,h4⟩:=insAt_flat n new r
  exact ⟨cons id d ks A,B,by rw [app,← h1],by rw [insAt,h2];rfl,by simp [roots,h3],by simp [roots,h4]⟩
theorem zFq:∀ (f:Fo) (p lv:Int) (x:Int × NodeD × Fo),f.sub p lv=some x→p∈f.ids
 | nil,_,_,_,h=>by simp [sub] at h
 | cons id d ks r,p,lv,x,h=>by
  rw [sub] at h;by_cases e:id=p
  ·simp [ids,e]
  rw [if_neg e] at h;cases hs:ks.sub p (lv+1) with
  | some y=>simp [ids,zFq ks p _ y hs]
  | none=>rw [hs] at h;simp [ids,zFq r p lv x h]
theorem zCP:∀ (f:Fo) (p lv:Int),f.sub p lv=none→p ∉ f.ids
 | nil,_,_,_=>by simp [ids]
 | cons id d ks r,p,lv,h=>by
  rw [sub] at h;by_cases e:id=p
  ·rw [if_pos e] at h;cases h
  rw [if_neg e] at h;cases hs:ks.sub p (lv+1) with
  | some y=>rw [hs] at h;cases h
  | none =>
   rw [hs] at h;simp [ids,zCP ks p _ hs,zCP r p lv h]
   exact fun e'=>e e'.symm
theorem sub_of_mem (f:Fo) (p lv:Int) (h:p∈f.ids):∃ x,f.sub p lv=some x:=by
 cases hs:f.sub p lv with
 | some x=>exact ⟨x,rfl⟩
 | none=>exact absurd h (zCP f p lv hs)
theorem zFs:∀ (f:Fo) (p:Int) (g:Fo→Fo),p ∉ f.ids→f.upd p g=f
 | nil,_,_,_=>rfl
 | cons id d ks r,p,g,h=>by
  simp [ids] at h
  rw [upd,if_neg (fun e=>h.1 e.symm),zFs ks p g h.2.1,zFs r p g h.2.2]
theorem zDm:∀ (f:Fo) (p:Int) (g:NodeD→NodeD),p ∉ f.ids→f.setD p g=f
 | nil,_,_,_=>rfl
 | cons id d ks r,p,g,h=>by
  simp [ids] at h
  rw [setD,if_neg (fun e=>h.1 e.symm),zDm ks p g h.2.1,zDm r p g h.2.2]
theorem zFR:∀ (f:Fo) (p:Int),p ∉ f.ids→f.del p=f
 | nil,_,_=>rfl
 | cons id d ks r,p,h=>by
  simp [ids] at h
  rw [del,if_neg (fun e=>h.1 e.symm),zFR ks p h.2.1,zFR r p h.2.2]
theorem split_at:∀ (f:Fo) (p lv:Int),f.ids.Nodup → ∀ l d ks,f.sub p lv=some (l,d,ks) → ∃ A B:List RowD,
  f.flat lv=A++⟨p,d.at l⟩ :: (ks.flat (l+1)++B)∧(∀ r∈A,r.id≠p)∧(∀ r∈B.head?,r.x.level≤l)∧lv≤l ∧
  (∀ g,(f.upd p g).flat lv=A++⟨p,d.at l⟩ :: ((g ks).flat (l+1)++B)) ∧
  (∀ h,(f.setD p h).flat lv=A++⟨p,(h d).at l⟩ :: (ks.flat (l+1)++B)) ∧
  (f.del p).flat lv=A++B
 | nil,_,_,_,_,_,_,h=>by simp [sub] at h
 | cons id d0 ks0 r,p,lv,hn,l,d,ks,h=>by
  rw [sub] at h;simp only [ids,List.nodup_cons,List.nodup_append,List.mem_append,not_or] at hn;obtain ⟨⟨hk,hr⟩,nk,nr,hd⟩:=hn
  by_cases e:id=p
  ·rw [if_pos e] at h
   injection h with h;injection h with h1 h;injection h with h2 h3
   subst h1;subst h2;subst h3;subst e;refine ⟨[],r.flat lv,rfl,by simp,fun x hx=>Int.le_of_eq (zGF r lv x hx),Int.le_refl _,fun g=>?_,fun g=>?_,?_⟩
   ·rw [upd,if_pos rfl];rfl
   ·rw [setD,if_pos rfl];rfl
   ·rw [del,if_pos rfl];rfl
  ·rw [if_neg e] at h
   cases hs:ks0.sub p (lv+1) with
   | some y =>
    rw [hs] at h
    injection h with h
    subst h;have hpk:=zFq ks0 p _ _ hs
    have hpr:p ∉ r.ids:=fun hp=>hd p hpk p hp rfl
    obtain ⟨A,B,h1,h2,h3,h4,h5,h6,h7⟩:=split_at ks0 p (lv+1) nk l d ks hs
    refine ⟨⟨id,d0.at lv⟩ :: A,B++r.flat lv,?_,?_,?_,by omega,fun g=>?_,fun g=>?_,?_⟩
    ·rw [flat,h1];simp
    ·intro x hx
     rcases List.mem_cons.1 hx with rfl | hx
     ·exact e
     ·exact h2 x hx
    ·intro x hx
     cases hB:B with
     | nil =>
      rw [hB] at hx;have:=zGF r lv x (by simpa using hx);omega
     | cons b B' =>
      rw [hB] at hx h3;exact h3 x (by simpa using hx)
    ·rw [upd,if_neg e,zFs r p g hpr,flat,h5];simp
    ·rw [setD,if_neg e,zDm r p g hpr,flat,h6];simp
    ·rw [del,if_neg e,zFR r p hpr,flat,h7];simp
   | none =>
    rw [hs] at h;have hpk:=zCP ks0 p _ hs
    obtain ⟨A,B,h1,h2,h3,h4,h5,h6,h7⟩:=split_at r p lv nr l d ks h
    refine ⟨⟨id,d0.at lv⟩ :: (ks0.flat (lv+1)++A),B,?_,?_,h3,h4,fun g=>?_,fun g=>?_,?_⟩
    ·rw [flat,h1];simp
    ·intro x hx
     rcases List.mem_cons.1 hx with rfl | hx
     ·exact e
     rcases List.mem_append.1 hx with hx | hx
     ·intro hx'
      refine hpk ?_
      rw [← flat_ids ks0 (lv+1),← hx'];exact List.mem_map_of_mem hx
     ·exact h2 x hx
    ·rw [upd,if_neg e,zFs ks0 p g hpk,flat,h5];simp
    ·rw [setD,if_neg e,zDm ks0 p g hpk,flat,h6];simp
    ·rw [del,if_neg e,zFR ks0 p hpk,flat,h7];simp
end Fo
end
section
open Go.RowKit
def strV (l:List UInt8):Value:=.string ⟨l.toArray⟩
def AttrsAt (w:World) (B:Nat) (A:Option Addr) (l:List AttrD):Prop :=
 0<l.length → ∃ ad,A=some ad∧ad.block<B ∧ ∀ k a,l[k]? = some a→w.cell? (ad.add (k * 2))=some (strV a.name)∧w.cell? ⟨(ad.add (k * 2)).block,(ad.add (k * 2)).off+1,none⟩=some (strV a.value)
def itemVal (x:ItemD) (A:Option Addr) (c:Nat):Array Value:=#[.int .i64 x.level,.int .i64 x.kind,strV x.name,strV x.text,.slice A x.attrs.length c]
def ItemsAt (w:World) (B:Nat) (A:Option Addr) (l:List ItemD):Prop :=
 0<l.length → ∃ ad,A=some ad∧ad.block<B ∧ ∀ k x,l[k]? = some x → ∃ A' c,AttrsAt w B A' x.attrs∧x.attrs.length≤c ∧
  w.cell? (ad.add (k * 5))=some (.int .i64 x.level)∧w.cell? ⟨(ad.add (k * 5)).block,(ad.add (k * 5)).off+1,none⟩=some (.int .i64 x.kind)∧w.cell? ⟨(ad.add (k * 5)).block,(ad.add (k * 5)).off+2,none⟩=some (strV x.name) ∧
  w.cell? ⟨(ad.add (k * 5)).block,(ad.add (k * 5)).off+3,none⟩=some (strV x.text)∧w.cell? ⟨(ad.add (k * 5)).block,(ad.add (k * 5)).off+4,none⟩=some (.slice A' x.attrs.length c)
theorem zAD (a:Addr) (n:Nat):(a.add n).block=a.block:=by unfold Addr.add;split <;> rfl
theorem zBI (a:Addr) (i j:Nat):(a.add i).add j=a.add (i+j):=by
 unfold Addr.add;by_cases hi:i=0 <;> by_cases hj:j=0 <;> simp [hi,hj,Nat.add_assoc]
section
variable {w w':World} {B B':Nat} {A:Option Addr}
theorem AttrsAt.keep {l:List AttrD} (h:AttrsAt w B A l) (hk:∀ p:Addr,p.block<B→w'.cell? p=w.cell? p):AttrsAt w' B A l:=fun hn=>by
 obtain ⟨ad,e,hb,hc⟩:=h hn
 exact ⟨ad,e,hb,fun k a ha=>⟨(hk _ (by rw [zAD];exact hb)).trans (hc k a ha).1,(hk _ (by show (ad.add _).block<B;rw [zAD];exact hb)).trans (hc k a ha).2⟩⟩
theorem AttrsAt.more {l:List AttrD} (h:AttrsAt w B A l) (hB:B≤B'):AttrsAt w B' A l:=fun hn=>by
 obtain ⟨ad,e,hb,hc⟩:=h hn
 exact ⟨ad,e,by omega,hc⟩
theorem AttrsAt.below {l:List AttrD} (h:AttrsAt w B A l) (hb:Below B w w'):AttrsAt w' B A l:=h.keep fun _ hp=>hb.cell hp
theorem ItemsAt.keep {l:List ItemD} (h:ItemsAt w B A l) (hk:∀ p:Addr,p.block<B→w'.cell? p=w.cell? p):ItemsAt w' B A l:=fun hn=>by
 obtain ⟨ad,e,hb,hc⟩:=h hn
 refine ⟨ad,e,hb,fun k x hx=>?_⟩
 obtain ⟨A',c,ha,hac,h0,h1,h2,h3,h4⟩:=hc k x hx
 have hk':∀ n,w'.cell? ⟨(ad.add (k * 5)).block,(ad.add (k * 5)).off+n,none⟩=w.cell? ⟨(ad.add (k * 5)).block,(ad.add (k * 5)).off+n,none⟩:=fun n=>hk _ (by show (ad.add _).block<B;rw [zAD];exact hb)
 exact ⟨A',c,ha.keep hk,hac,(hk _ (by rw [zAD];exact hb)).trans h0,(hk' _).trans h1,(hk' _).trans h2,(hk' _).trans h3,(hk' _).trans h4⟩
theorem ItemsAt.more {l:List ItemD} (h:ItemsAt w B A l) (hB:B≤B'):ItemsAt w B' A l:=fun hn=>by
 obtain ⟨ad,e,hb,hc⟩:=h hn
 refine ⟨ad,e,by omega,fun k x hx=>?_⟩
 obtain ⟨A',c,ha,hr⟩:=hc k x hx
 exact ⟨A',c,ha.more hB,hr⟩
theorem ItemsAt.below {l:List ItemD} (h:ItemsAt w B A l) (hb:Below B w w'):ItemsAt w' B A l:=h.keep fun _ hp=>hb.cell hp
end
end
section
open Go.RowKit
theorem zBe (a b c:Int) (w:World) (r:Bool) (hr:Hid ((decide (a≤c) && decide (c≤b))=r)) :
  Calls Tryz.prog 108 #[.agg #[.int .i32 a,.int .i32 b],.int .i32 c] w (Ret w (.bool r)):=by
 rw [← hr.out]
 go_enter Tryz.func108,Tryz.ntmps108
 go_wp2
 all_goals go_ret
 all_goals (refine ⟨zFk ?_,(Below.refl _ _).alloc (Nat.le_refl _) _⟩)
 all_goals (rw [Bool.eq_iff_iff];simp;try omega)
def startsTab:Array Value:=#[.int .i32 65,.int .i32 90,.int .i32 95,.int .i32 95,.int .i32 97,.int .i32 122,.int .i32 192,.int .i32 214,.int .i32 216,.int .i32 246,.int .i32 248,.int .i32 767,.int .i32 880,.int .i32 893,.int .i32 895,.int .i32 8191,.int .i32 8204,.int .i32 8205,.int .i32 8304,.int .i32 8591,.int .i32 11264,.int .i32 12271,.int .i32 12289,.int .i32 55295,.int .i32 63744,.int .i32 64975,.int .i32 65008,.int .i32 65533,.int .i32 65536,.int .i32 983039]
def partsTab:Array Value:=#[.int .i32 45,.int .i32 46,.int .i32 48,.int .i32 57,.int .i32 183,.int .i32 183,.int .i32 768,.int .i32 879,.int .i32 8255,.int .i32 8256]
theorem zCg {ops:Array Oper} {rest:List Oper} {op:Oper} {a:Act} {w:World} {Q:Exit→Act→World→Prop} (z:Array Value) (hz:z.size=30) (hgd:op.guard=none) (ho:op.op=.store 169 (.tmp 0) (.tmp 16))
  (hx:a.eval (.tmp 0)=.pointer (some ⟨w.heap.size,0,none⟩)) (hy:a.eval (.tmp 16)=.agg startsTab)
  (h:wpList Tryz.prog ops Q rest (a.put op.dst undef) (w.alloc (.cells startsTab 169))):wpList Tryz.prog ops Q (op :: rest) a (w.alloc (.cells z 169)) :=
 wpList_plain hgd fun _ hK=>by
  unfold Oper.wp execOp;simp only [ho,hx,hy];have:=run_storeAt_new (P:=Tryz.prog) w 169 z startsTab (by kernel_rfl) hz (by kernel_rfl)
  simp only [Sem.run_bind,this,Result.andThen_ok];exact hK _ _ h
theorem zIr (w:World):Calls Tryz.prog 109 #[] w (Ret w (.agg startsTab)):=by
 go_enter Tryz.func109,Tryz.ntmps109
 go_wp2_with (refine zCg _ rfl rfl rfl rfl rfl ?_)
 exact bodyPost_ret (v:=.agg startsTab) (results_cell_row Tryz.results109 _ _ w.heap.size 169 startsTab (0,0) _ rfl (heap_alloc_new w _) Tryz.underlying169 rfl (by kernel_rfl)) rfl ⟨rfl,(Below.refl _ _).alloc (Nat.le_refl _) _⟩
theorem zNL (w:World):(Instr.index 169 (.agg startsTab) (.int .i64 0)).run Tryz.prog w=.ok (.agg #[.int .i32 65,.int .i32 90]) w:=by kernel_rfl
theorem zNM (w:World):(Instr.index 169 (.agg startsTab) (.int .i64 1)).run Tryz.prog w=.ok (.agg #[.int .i32 95,.int .i32 95]) w:=by kernel_rfl
theorem zNN (w:World):(Instr.index 169 (.agg startsTab) (.int .i64 2)).run Tryz.prog w=.ok (.agg #[.int .i32 97,.int .i32 122]) w:=by kernel_rfl
theorem zNO (w:World):(Instr.index 169 (.agg startsTab) (.int .i64 3)).run Tryz.prog w=.ok (.agg #[.int .i32 192,.int .i32 214]) w:=by kernel_rfl
theorem zNP (w:World):(Instr.index 169 (.agg startsTab) (.int .i64 4)).run Tryz.prog w=.ok (.agg #[.int .i32 216,.int .i32 246]) w:=by kernel_rfl
theorem zNQ (w:World):(Instr.index 169 (.agg startsTab) (.int .i64 5)).run Tryz.prog w=.ok (.agg #[.int .i32 248,.int .i32 767]) w:=by kernel_rfl
theorem zNR (w:World):(Instr.index 169 (.agg startsTab) (.int .i64 6)).run Tryz.prog w=.ok (.agg #[.int .i32 880,.int .i32 893]) w:=by kernel_rfl
theorem zNS (w:World):(Instr.index 169 (.agg startsTab) (.int .i64 7)).run Tryz.prog w=.ok (.agg #[.int .i32 895,.int .i32 8191]) w:=by kernel_rfl
theorem zNT (w:World):(Instr.index 169 (.agg startsTab) (.int .i64 8)).run Tryz.prog w=.ok (.agg #[.int .i32 8204,.int .i32 8205]) w:=by kernel_rfl
theorem zNU (w:World):(Instr.index 169 (.agg startsTab) (.int .i64 9)).run Tryz.prog w=.ok (.agg #[.int .i32 8304,.int .i32 8591]) w:=by kernel_rfl
theorem zMz (w:World):(Instr.index 169 (.agg startsTab) (.int .i64 10)).run Tryz.prog w=.ok (.agg #[.int .i32 11264,.int .i32 12271]) w:=by kernel_rfl
theorem zM0 (w:World):(Instr.index 169 (.agg startsTab) (.int .i64 11)).run Tryz.prog w=.ok (.agg #[.int .i32 12289,.int .i32 55295]) w:=by kernel_rfl
theorem zM1 (w:World):(Instr.index 169 (.agg startsTab) (.int .i64 12)).run Tryz.prog w=.ok (.agg #[.int .i32 63744,.int .i32 64975]) w:=by kernel_rfl
theorem zM2 (w:World):(Instr.index 169 (.agg startsTab) (.int .i64 13)).run Tryz.prog w=.ok (.agg #[.int .i32 65008,.int .i32 65533]) w:=by kernel_rfl
theorem zM3 (w:World):(Instr.index 169 (.agg startsTab) (.int .i64 14)).run Tryz.prog w=.ok (.agg #[.int .i32 65536,.int .i32 983039]) w:=by kernel_rfl
theorem zNG (w:World):(Instr.index 168 (.agg partsTab) (.int .i64 0)).run Tryz.prog w=.ok (.agg #[.int .i32 45,.int .i32 46]) w:=by kernel_rfl
theorem zNH (w:World):(Instr.index 168 (.agg partsTab) (.int .i64 1)).run Tryz.prog w=.ok (.agg #[.int .i32 48,.int .i32 57]) w:=by kernel_rfl
theorem zNI (w:World):(Instr.index 168 (.agg partsTab) (.int .i64 2)).run Tryz.prog w=.ok (.agg #[.int .i32 183,.int .i32 183]) w:=by kernel_rfl
theorem zNJ (w:World):(Instr.index 168 (.agg partsTab) (.int .i64 3)).run Tryz.prog w=.ok (.agg #[.int .i32 768,.int .i32 879]) w:=by kernel_rfl
theorem zNK (w:World):(Instr.index 168 (.agg partsTab) (.int .i64 4)).run Tryz.prog w=.ok (.agg #[.int .i32 8255,.int .i32 8256]) w:=by kernel_rfl
end
section
open Go.RowKit
theorem zL0 (a b c:Int) (w:World) :
  Calls Tryz.prog 108 #[.agg #[.int .i32 a,.int .i32 b],.int .i32 c] w (fun e w'=>(e=.returned (.bool true)∧(a≤c∧c≤b)∨e=.returned (.bool false) ∧ ¬(a≤c∧c≤b))∧Below w.heap.size w w'):=by
 refine (zBe a b c w _ (Lib.hid rfl)).mono ?_
 rintro e w1 ⟨rfl,h⟩;refine ⟨?_,h⟩
 by_cases k:a≤c∧c≤b
 ·exact .inl ⟨by simp [k],k⟩
 ·exact .inr ⟨by congr 2;simp;omega,k⟩
theorem zF4 (c:Int) (w:World) :
  Calls Tryz.prog 79 #[.int .i32 c] w (Ret w (.bool (startB c))):=by
 have q0:=zNL
 have q1:=zNM
 have q2:=zNN
 have q3:=zNO
 have q4:=zNP
 have q5:=zNQ
 have q6:=zNR
 have q7:=zNS
 have q8:=zNT
 have q9:=zNU
 have q10:=zMz
 have q11:=zM0
 have q12:=zM1
 have q13:=zM2
 have q14:=zM3
 go_enter Tryz.func79,Tryz.ntmps79
 go_wp2_with fail;refine (zIr _).mono ?_;rintro e w0 ⟨rfl,hb⟩;have hz:=hb.size
 go_wp2_with fail;refine wp_loop_rounds 16 ?_
 iterate 15
  rw [rounds_succ]
  go_wp2_with fail;refine (zL0 _ _ _ _).mono ?_
  rintro e w1 ⟨⟨rfl,h⟩ | ⟨rfl,h⟩,hb1⟩
  ·replace hb:=(hb.alloc hz _).trans (hb1.mono (by simp;omega))
   have hv:Hid (startB c=true):=by show _=_;unfold startB;simp;omega
   clear h hb1
   go_wp2_with fail
   go_ret;exact ⟨by rw [hv.out];rfl,hb⟩
  replace hb:=(hb.alloc hz _).trans (hb1.mono (by simp;omega))
  replace hz:=hb.size
  clear hb1
  go_wp2_with fail
 rw [rounds_succ];have hv:Hid (startB c=false):=by show _=_;unfold startB;simp;omega
 go_wp2_with fail
 go_ret;exact ⟨by rw [hv.out];rfl,hb⟩
end
section
open Go.RowKit
theorem zKa (c:Int) (w:World) :
  Calls Tryz.prog 78 #[.int .i32 c] w (Ret w (.bool (partB c))):=by
 have q0:=zNG
 have q1:=zNH
 have q2:=zNI
 have q3:=zNJ
 have q4:=zNK
 have ht:(#[Value.int .i32 45,Value.int .i32 46,Value.int .i32 48,Value.int .i32 57,Value.int .i32 183,Value.int .i32 183,Value.int .i32 768,Value.int .i32 879,Value.int .i32 8255,Value.int .i32 8256]:Array Value)=partsTab:=rfl
 go_enter Tryz.func78,Tryz.ntmps78
 go_wp2_with fail;refine wp_loop_rounds 6 ?_
 rw [rounds_succ];by_cases h0:45≤c∧c≤46
 ·have H0:Hid ((decide ((45:Int)≤c) && decide (c≤46))=true):=by show _=_;simp [h0]
  have hv:Hid (partB c=true):=by show _=_;unfold partB;simp;right;omega
  clear h0
  go_wp2_with fail;refine (zBe 45 46 _ _ true H0).mono ?_;rintro e w1 ⟨rfl,hb1⟩;have hz1:=hb1.size
  simp only [World.size_alloc] at hz1
  go_wp2_with fail
  go_ret;exact ⟨by rw [hv.out];rfl,((((Below.refl w.heap.size w)).alloc (by omega) _).trans (hb1.mono (by first | omega | (simp;done) | (simp;omega))))⟩
 have H0:Hid ((decide ((45:Int)≤c) && decide (c≤46))=false):=by show _=_;simp;omega
 go_wp2_with fail;refine (zBe 45 46 _ _ false H0).mono ?_;rintro e w1 ⟨rfl,hb1⟩;have hz1:=hb1.size
 simp only [World.size_alloc] at hz1
 go_wp2_with fail;rw [rounds_succ];by_cases h1:48≤c∧c≤57
 ·have H1:Hid ((decide ((48:Int)≤c) && decide (c≤57))=true):=by show _=_;simp [h1]
  have hv:Hid (partB c=true):=by show _=_;unfold partB;simp;right;omega
  clear h1
  go_wp2_with fail;refine (zBe 48 57 _ _ true H1).mono ?_;rintro e w2 ⟨rfl,hb2⟩;have hz2:=hb2.size
  simp only [World.size_alloc] at hz2
  go_wp2_with fail
  go_ret;exact ⟨by rw [hv.out];rfl,(((((((Below.refl w.heap.size w)).alloc (by omega) _).trans (hb1.mono (by first | omega | (simp;done) | (simp;omega))))).alloc (by omega) _).trans (hb2.mono (by first | omega | (simp;done) | (simp;omega))))⟩
 have H1:Hid ((decide ((48:Int)≤c) && decide (c≤57))=false):=by show _=_;simp;omega
 go_wp2_with fail;refine (zBe 48 57 _ _ false H1).mono ?_;rintro e w2 ⟨rfl,hb2⟩;have hz2:=hb2.size
 simp only [World.size_alloc] at hz2
 go_wp2_with fail;rw [rounds_succ];by_cases h2:183≤c∧c≤183
 ·have H2:Hid ((decide ((183:Int)≤c) && decide (c≤183))=true):=by show _=_;simp [h2]
  have hv:Hid (partB c=true):=by show _=_;unfold partB;simp;right;omega
  clear h2
  go_wp2_with fail;refine (zBe 183 183 _ _ true H2).mono ?_;rintro e w3 ⟨rfl,hb3⟩;have hz3:=hb3.size
  simp only [World.size_alloc] at hz3
  go_wp2_with fail
  go_ret;exact ⟨by rw [hv.out];rfl,((((((((((Below.refl w.heap.size w)).alloc (by omega) _).trans (hb1.mono (by first | omega | (simp;done) | (simp;omega))))).alloc (by omega) _).trans (hb2.mono (by first | omega | (simp;done) | (simp;omega))))).alloc (by omega) _).trans (hb3.mono (by first | omega | (simp;done) | (simp;omega))))⟩
 have H2:Hid ((decide ((183:Int)≤c) && decide (c≤183))=false):=by show _=_;simp;omega
 go_wp2_with fail;refine (zBe 183 183 _ _ false H2).mono ?_;rintro e w3 ⟨rfl,hb3⟩;have hz3:=hb3.size
 simp only [World.size_alloc] at hz3
 go_wp2_with fail;rw [rounds_succ];by_cases h3:768≤c∧c≤879
 ·have H3:Hid ((decide ((768:Int)≤c) && decide (c≤879))=true):=by show _=_;simp [h3]
  have hv:Hid (partB c=true):=by show _=_;unfold partB;simp;right;omega
  clear h3
  go_wp2_with fail;refine (zBe 768 879 _ _ true H3).mono ?_;rintro e w4 ⟨rfl,hb4⟩;have hz4:=hb4.size
  simp only [World.size_alloc] at hz4
  go_wp2_with fail
  go_ret;exact ⟨by rw [hv.out];rfl,(((((((((((((Below.refl w.heap.size w)).alloc (by omega) _).trans (hb1.mono (by first | omega | (simp;done) | (simp;omega))))).alloc (by omega) _).trans (hb2.mono (by first | omega | (simp;done) | (simp;omega))))).alloc (by omega) _).trans (hb3.mono (by first | omega | (simp;done) | (simp;omega))))).alloc (by omega) _).trans (hb4.mono (by first | omega | (simp;done) | (simp;omega))))⟩
 have H3:Hid ((decide ((768:Int)≤c) && decide (c≤879))=false):=by show _=_;simp;omega
 go_wp2_with fail;refine (zBe 768 879 _ _ false H3).mono ?_;rintro e w4 ⟨rfl,hb4⟩;have hz4:=hb4.size
 simp only [World.size_alloc] at hz4
 go_wp2_with fail;rw [rounds_succ];by_cases h4:8255≤c∧c≤8256
 ·have H4:Hid ((decide ((8255:Int)≤c) && decide (c≤8256))=true):=by show _=_;simp [h4]
  have hv:Hid (partB c=true):=by show _=_;unfold partB;simp;right;omega
  clear h4
  go_wp2_with fail;refine (zBe 8255 8256 _ _ true H4).mono ?_;rintro e w5 ⟨rfl,hb5⟩;have hz5:=hb5.size
  simp only [World.size_alloc] at hz5
  go_wp2_with fail
  go_ret;exact ⟨by rw [hv.out];rfl,((((((((((((((((Below.refl w.heap.size w)).alloc (by omega) _).trans (hb1.mono (by first | omega | (simp;done) | (simp;omega))))).alloc (by omega) _).trans (hb2.mono (by first | omega | (simp;done) | (simp;omega))))).alloc (by omega) _).trans (hb3.mono (by first | omega | (simp;done) | (simp;omega))))).alloc (by omega) _).trans (hb4.mono (by first | omega | (simp;done) | (simp;omega))))).alloc (by omega) _).trans (hb5.mono (by first | omega | (simp;done) | (simp;omega))))⟩
 have H4:Hid ((decide ((8255:Int)≤c) && decide (c≤8256))=false):=by show _=_;simp;omega
 go_wp2_with fail;refine (zBe 8255 8256 _ _ false H4).mono ?_;rintro e w5 ⟨rfl,hb5⟩;have hz5:=hb5.size
 simp only [World.size_alloc] at hz5
 go_wp2_with fail;rw [rounds_succ];have hv:Hid (partB c=startB c):=by show _=_;unfold partB;rw [Bool.or_eq_left_iff_imp];simp;omega
 clear h0 h1 h2 h3 h4
 go_wp2_with fail;refine (zF4 _ _).mono ?_;rintro e w9 ⟨rfl,hb9⟩;have hz9:=hb9.size
 go_wp2_with fail
 go_ret;exact ⟨by rw [hv.out];rfl,(((((((((((((((((Below.refl w.heap.size w)).alloc (by omega) _).trans (hb1.mono (by first | omega | (simp;done) | (simp;omega))))).alloc (by omega) _).trans (hb2.mono (by first | omega | (simp;done) | (simp;omega))))).alloc (by omega) _).trans (hb3.mono (by first | omega | (simp;done) | (simp;omega))))).alloc (by omega) _).trans (hb4.mono (by first | omega | (simp;done) | (simp;omega))))).alloc (by omega) _).trans (hb5.mono (by first | omega | (simp;done) | (simp;omega))))).trans (hb9.mono (by omega))⟩
end
section
open Go.RowKit
theorem zGx (c:Int) (w:World) (r:Bool) (h:Hid (partB c=r)):Calls Tryz.prog 78 #[.int .i32 c] w (Ret w (.bool r)):=by
 rw [← h.out];exact zKa c w
theorem zKe (c:Int) (w:World) (r:Bool) (h:Hid (startB c=r)):Calls Tryz.prog 79 #[.int .i32 c] w (Ret w (.bool r)):=by
 rw [← h.out];exact zF4 c w
theorem zGU (c:Int) (first:Bool) (w:World) (r:Bool) (h:Hid ((partB c && (!first || startB c))=r)) :
  Calls Tryz.prog 77 #[.int .i32 c,.bool first] w (Ret w (.bool r)):=by
 rw [← h.out];clear h;obtain ⟨p,hp⟩:∃ p,Hid (partB c=p):=⟨_,rfl⟩
 obtain ⟨q,hq⟩:∃ q,Hid (startB c=q):=⟨_,rfl⟩
 rw [hp.out,hq.out];cases p <;> cases first <;> cases q
 all_goals
  go_enter Tryz.func77,Tryz.ntmps77
  go_wp2_with (first
   | (go_at_call 78;refine (zGx c _ _ hp).mono ?_;rintro e w2 ⟨rfl,hb2⟩)
   | (go_at_call 79;refine (zKe c _ _ hq).mono ?_;rintro e w3 ⟨rfl,hb3⟩))
  go_ret
  first
   | exact ⟨rfl,hb2⟩
   | exact ⟨rfl,hb2.trans (hb3.mono (by have:=hb2.size;omega))⟩
theorem zJT (s:ByteArray) (b:Nat) (w:World) (hs:s.size≤maxLen) (hb:b<w.heap.size)
  (hc:w.cell? ⟨b,0,none⟩=some (.func (.func 77) #[] #[])) (V:Int) (hV:Hid (eachI 0 s.data.toList=V)) :
  Calls Tryz.prog 76 #[.string s,.slice (some ⟨b,0,none⟩) 1 1] w (Ret w (.int .i64 V)):=by
 unfold maxLen at hs;have HC:=Lib.hid hc
 clear hc
 go_enter Tryz.func76,Tryz.ntmps76
 go_wp2_with fail
 go_loopw [0,5] (fun sv mv wr=>∃ (t:ByteArray) (k:Nat),sv=.string t∧mv=.int .i64 k∧k+t.size≤s.size∧Hid (eachI k t.data.toList=V)∧Below w.heap.size w wr) (fun sv _ _=>(strOf sv).size)
 case atStart=>exact ⟨s,0,rfl,rfl,by omega,hV,Below.refl _ _⟩
 case round =>
  obtain ⟨t,k,rfl,rfl,hkt,hyes,hbel⟩:=hrel
  have hwr:=hbel.size
  have HL:=Lib.hid (zAH t)
  by_cases he:t.toList.isEmpty=true
  ·have hnil:t.data.toList=[]:=by rw [ByteArray.toList_eq] at he;simpa using he
   have hv:Hid (V=k):=by
    have:=hyes.out
    rw [hnil,zJS] at this;exact this.symm
   clear hnil
   go_wp2_with fail
   go_ret;exact ⟨by rw [hv.out];rfl,hbel⟩
  ·have hne:t.toList.isEmpty=false:=by simpa using he
   clear he;have hnn:Hid (t.data.toList≠[]):=by
    intro h;rw [ByteArray.toList_eq,h] at hne;cases hne
   obtain ⟨c,n,hq⟩:∃ c n,Hid (nextL t.data.toList=(c,n)):=⟨_,_,rfl⟩
   have hle:=zA2 t.data.toList
   rw [hq.out,HL.out] at hle;obtain ⟨hn1,hn4⟩:=hle
   simp only at hn1 hn4
   by_cases hn:n=0
   ·have hv:Hid (V = -1):=by
     have:=zJR k t.data.toList hnn.out (by rw [hq.out];exact hn)
     exact hyes.out.symm.trans this
    have hn0:((n:Int) == 0)=true:=by simp [hn]
    clear hn
    go_wp2_with (go_at_call 107;refine (zAl t wr (by unfold maxLen;omega) c n hq).mono ?_;rintro e w2 ⟨rfl,hb2⟩)
    go_ret;exact ⟨by rw [hv.out];rfl,hbel.trans (hb2.mono (by omega))⟩
   ·have hn0:((n:Int) == 0)=false:=by simp [hn]
    have hnp:1≤n:=by omega
    have HN:Hid ((nextL t.data.toList).2≠0):=by show _;rw [hq.out];exact hn
    clear hn;obtain ⟨f,hf⟩:∃ f,Hid (((k:Int) == 0)=f):=⟨_,rfl⟩
    have hf':Hid ((k == 0)=f):=by
     show _=_
     rw [← hf.out,Bool.eq_iff_iff];simp
    obtain ⟨r,hr⟩:∃ r,Hid ((partB c && (!f || startB c))=r):=⟨_,rfl⟩
    go_wp2_with fail;refine (zAl t wr (by unfold maxLen;omega) c n hq).mono ?_
    rintro e w2 ⟨rfl,hb2⟩;obtain ⟨wo,rfl⟩:∃ wo:World,wo=wr:=⟨_,rfl⟩
    have hbel2:=hbel.trans (hb2.mono (by omega))
    have hz2:=hbel2.size
    have hcell:w2.cell? ⟨b,0,none⟩=some (.func (.func 77) #[] #[]):=by
     rw [hbel2.cell (p:=⟨b,0,none⟩) hb];exact HC.out
    have hfv:=hf.out
    go_wp2_with fail;cases r with
    | false =>
     have hv:Hid (V = -1):=by
      have:=zKn k t.data.toList hnn.out HN.out (by rw [hq.out,hf'.out];exact hr.out)
      exact hyes.out.symm.trans this
     refine wp_loop_rounds 1 ?_
     rw [rounds_succ]
     go_wp2_with (go_at_call 77;refine (zGU c f _ _ hr).mono ?_;rintro e w3 ⟨rfl,hb3⟩)
     go_ret;exact ⟨by rw [hv.out];rfl,hbel2.trans (hb3.mono (by omega))⟩
    | true =>
     have hx:(t.extract n t.size).data.toList=t.data.toList.drop n:=Lib.extract_to_end t n
     have hxs:(t.extract n t.size).size=t.size-n:=by simp
     have hst:Hid (eachI (k+1) (t.extract n t.size).data.toList=V):=by
      have:=zIN k t.data.toList hnn.out HN.out (by rw [hq.out,hf'.out];exact hr.out)
      rw [hq.out] at this;show _=_
      rw [hx,← hyes.out,this]
     have HX:=Lib.hid hxs
     clear hx hxs;refine wp_loop_rounds 2 ?_
     rw [rounds_succ]
     go_wp2_with (go_at_call 77;refine (zGU c f _ _ hr).mono ?_;rintro e w3 ⟨rfl,hb3⟩)
     rw [rounds_succ]
     go_wp2_with fail
     go_roundw
     case rel=>exact ⟨t.extract n t.size,k+1,rfl,by go_num,by rw [HX.out];omega,hst,hbel2.trans (hb3.mono (by omega))⟩
     case measure =>
      show (t.extract n t.size).size<t.size
      rw [HX.out];omega
theorem zHZ (s:ByteArray) (w:World) (hs:s.size≤maxLen) (r:Bool) (hr:Hid (nameL s.data.toList=r)) :
  Calls Tryz.prog 54 #[.string s] w (Ret w (.bool r)):=by
 have hr':=hr.out
 rw [zIW,zAH] at hr';have HL:=Lib.hid hr'
 clear hr hr';by_cases he:s.toList.isEmpty=true
 ·have hnil:s.data.toList=[]:=by rw [ByteArray.toList_eq] at he;simpa using he
  have hv:Hid (r=false):=by show _=_;rw [← HL.out,hnil];simp
  clear hnil HL
  go_enter Tryz.func54,Tryz.ntmps54
  go_wp2_with fail
  go_ret;exact ⟨by rw [hv.out];rfl,Below.refl _ _⟩
 ·have hne:s.toList.isEmpty=false:=by simpa using he
  clear he;have hnn:Hid (s.data.toList≠[]):=by
   intro h;rw [ByteArray.toList_eq,h] at hne;cases hne
  by_cases h60:s.size≤60
  ·obtain ⟨V,hV⟩:∃ V,Hid (eachI 0 s.data.toList=V):=⟨_,rfl⟩
   have hz:(s.size:Int)≤60:=by omega
   have hv:Hid (decide (0<V)=r):=by
    show _=_
    rw [← HL.out,hV.out];simp [h60,hnn.out]
   clear h60
   go_enter Tryz.func54,Tryz.ntmps54
   go_wp2_with fail;refine (zJT s w.heap.size _ hs (by simp) (World.cell?_alloc_at _ _ _ _ (by simp)) V hV).mono ?_
   rintro e w2 ⟨rfl,hb2⟩
   go_wp2_with fail
   go_ret;refine ⟨by rw [← hv.out];rfl,((Below.refl _ w).alloc (Nat.le_refl _) _).trans (hb2.mono (by simp))⟩
  ·have hz:60<(s.size:Int):=by omega
   have hv:Hid (r=false):=by show _=_;rw [← HL.out];simp [h60]
   clear h60
   go_enter Tryz.func54,Tryz.ntmps54
   go_wp2_with fail
   go_ret;exact ⟨by rw [hv.out];rfl,Below.refl _ _⟩
end
section
open Go.RowKit
theorem zFw (s:List UInt8) (w:World) (hs:s.length≤1000000000) (r:Bool) (hr:Hid (nameL s=r)) :
  Calls Tryz.prog 54 #[.string ⟨s.toArray⟩] w (Ret w (.bool r)):=zHZ _ w (by show s.toArray.size≤maxLen;unfold maxLen;simp;omega) r hr
theorem zJO (s:List UInt8) (w:World) (hs:s.length≤1000000000) (n:Int) (h:Hid (charsE s=n)) :
  Calls Tryz.prog 103 #[.string ⟨s.toArray⟩] w (Ret w (.int .i64 n)):=zKl _ w (by show s.toArray.size≤maxLen;unfold maxLen;simp;omega) n h
theorem zFg (s:List UInt8) (w:World) (hs:s.length≤1000000000) (n:Int) (h:Hid (charsE s=n)) :
  Calls Tryz.prog 126 #[.string ⟨s.toArray⟩] w (Ret w (.int .i64 n)):=zKA _ w (by show s.toArray.size≤_;simp;omega) n h
theorem zJt (x:ItemD) (A:Option Addr) (c:Nat) (w:World) (hA:AttrsAt w w.heap.size A x.attrs) (hs:SmallItem x) (V:Int) (hV:Hid (namesE x=V)) :
  Calls Tryz.prog 104 #[.agg (itemVal x A c)] w (Ret w (.int .i64 V)):=by
 obtain ⟨hs1,hs2,hs3,hs4,hs5⟩:=hs
 have HS4:=Lib.hid hs4
 have HA:=Lib.hid hA
 clear hs4 hA hs5;have hV':=hV.out
 unfold namesE at hV';clear hV;unfold itemVal strV;cases hn:nameL x.name with
 | false =>
  have HN:Hid (nameL x.name=false):=hn
  have hv:Hid (V=63):=by show _=_;rw [← hV',hn];rfl
  clear hV' hn
  go_enter Tryz.func104,Tryz.ntmps104
  go_wp2_with fail;refine (zFw _ _ hs1 _ HN).mono ?_;rintro e w2 ⟨rfl,hb2⟩
  go_wp2_with fail
  go_ret;exact ⟨by rw [hv.out];rfl,((Below.refl _ w).alloc (Nat.le_refl _) _).trans (hb2.mono (by simp))⟩
 | true =>
  have HN:Hid (nameL x.name=true):=hn
  rw [hn,Bool.true_and] at hV';clear hn;obtain ⟨R,hR⟩:∃ R,Hid (attrNames [] x.attrs=R):=⟨_,rfl⟩
  rw [hR.out] at hV';have HV:=Lib.hid hV'
  clear hV'
  go_enter Tryz.func104,Tryz.ntmps104
  go_wp2_with fail;obtain ⟨w1,hw1⟩:∃ w1,Hid (w1=w.alloc (.cells #[.int .i64 x.level,.int .i64 x.kind,.string ⟨x.name.toArray⟩,.string ⟨x.text.toArray⟩,.slice A x.attrs.length c] 75)):=⟨_,rfl⟩
  have hbw1:Below w.heap.size w w1:=by rw [hw1.out];exact (Below.refl _ w).alloc (Nat.le_refl _) _
  have hz1:w.heap.size<w1.heap.size:=by rw [hw1.out];simp
  have hcell1:Hid (w1.cell? ⟨w.heap.size,4,none⟩=some (.slice A x.attrs.length c)):=by
   show _=_
   rw [hw1.out,World.cell?_alloc_at _ _ _ _ (by simp)];rfl
  rw [← hw1.out];refine (zFw _ _ hs1 _ HN).mono ?_;rintro e w2 ⟨rfl,hb2⟩;have hz2:=hb2.size
  have hc4:w2.cell? ⟨w.heap.size,4,none⟩=some (.slice A x.attrs.length c):=by
   rw [hb2.cell (p:=⟨w.heap.size,4,none⟩) hz1];exact hcell1.out
  go_wp2_with fail
  go_loopw [3,13] (fun last i wr=>∃ (k:Nat) (l:List UInt8),k≤x.attrs.length∧i=.int .i64 k∧last=.string ⟨l.toArray⟩∧Hid (attrNames l (x.attrs.drop k)=R)∧Below w2.heap.size w2 wr) (fun _ i _=>x.attrs.length-(intOf i).toNat)
  case atStart=>exact ⟨0,[],Nat.zero_le _,rfl,rfl,hR,Below.refl _ _⟩
  case round =>
   obtain ⟨k,l,hk,rfl,rfl,hin,hbel⟩:=hrel
   have hzr:=hbel.size
   have hbwr:Below w.heap.size w wr:=(hbw1.trans (hb2.mono (by omega))).trans (hbel.mono (by omega))
   by_cases hlt:k<x.attrs.length
   ·obtain ⟨a,ha⟩:∃ a,Hid (x.attrs[k]? = some a):=⟨x.attrs[k],List.getElem?_eq_getElem _⟩
    obtain ⟨ad,hAd,hbl,hcs⟩:=(HA.out.below hbwr) (by omega)
    obtain ⟨hc0,hc1⟩:=hcs k a ha.out
    unfold strV at hc0 hc1;clear hcs;have hin':=hin.out
    rw [zAY ha.out,attrNames] at hin';have hnm:=(HS4.out k a ha.out).1
    subst hAd;have hlt':(k:Int)<x.attrs.length:=by omega
    cases hq:nameL a.name with
    | false =>
     have HQ:Hid (nameL a.name=false):=hq
     have hv:Hid (V=63):=by
      show _=_
      rw [hq] at hin';have hR':R=false:=hin'.symm
      rw [← HV.out,hR'];rfl
     clear hin' hq
     go_wp2_with fail;refine (zFw _ _ hnm _ HQ).mono ?_;rintro e w3 ⟨rfl,hb3⟩;have hz3:=hb3.size
     simp only [World.size_alloc] at hz3
     go_wp2_with fail
     go_ret;exact ⟨by rw [hv.out];rfl,(hbwr.alloc (by omega) _).trans (hb3.mono (by simp;omega))⟩
    | true =>
     have HQ:Hid (nameL a.name=true):=hq
     rw [hq,Bool.true_and] at hin';clear hq;have hcell3:∀ w3,Below (wr.alloc (Obj.cells #[Value.string ⟨a.name.toArray⟩,Value.string ⟨a.value.toArray⟩] 77)).heap.size (wr.alloc (Obj.cells #[Value.string ⟨a.name.toArray⟩,Value.string ⟨a.value.toArray⟩] 77)) w3→w3.cell? ⟨wr.heap.size,0,none⟩=some (.string ⟨a.name.toArray⟩):=fun w3 hb3=>by
      rw [hb3.cell (p:=⟨wr.heap.size,0,none⟩) (by simp),World.cell?_alloc_at _ _ _ _ (by simp)];rfl
     have HC3:=Lib.hid hcell3
     clear hcell3;obtain ⟨b1,hb1⟩:∃ b1,Op.bytesLess a.name l=b1:=⟨_,rfl⟩
     obtain ⟨b2,hb2'⟩:∃ b2,(a.name == l)=b2:=⟨_,rfl⟩
     have hle:leB a.name l=(b1 || b2):=by unfold leB;rw [hb1,hb2']
     rw [hle] at hin';clear hle;cases hbb:(b1 || b2) with
     | true =>
      have hv:Hid (V=63):=by
       show _=_
       rw [hbb] at hin';have hR':R=false:=hin'.symm
       rw [← HV.out,hR'];rfl
      clear hin'
      go_wp2_with fail;refine (zFw _ _ hnm _ HQ).mono ?_;rintro e w3 ⟨rfl,hb3⟩;have hz3:=hb3.size
      have hcell3:=HC3.out w3 hb3
      simp only [World.size_alloc] at hz3
      go_wp2_with fail
      go_ret;exact ⟨by rw [hv.out];rfl,(hbwr.alloc (by omega) _).trans (hb3.mono (by simp;omega))⟩
     | false =>
      rw [hbb] at hin';have hin2:Hid (attrNames a.name (x.attrs.drop (k+1))=R):=hin'
      clear hin'
      go_wp2_with fail;refine (zFw _ _ hnm _ HQ).mono ?_;rintro e w3 ⟨rfl,hb3⟩;have hz3:=hb3.size
      have hcell3:=HC3.out w3 hb3
      simp only [World.size_alloc] at hz3
      go_wp2_with fail
      go_roundw
      case rel=>exact ⟨k+1,a.name,by omega,by go_num,rfl,hin2,(hbel.alloc (by omega) _).trans (hb3.mono (by simp;omega))⟩
      case measure=>simp [intOf];omega
   ·have hk':k=x.attrs.length:=by omega
    have hR':R=true:=by
     rw [← hin.out,List.drop_eq_nil_of_le (by omega)];rfl
    have hv':=HV.out
    rw [hR'] at hv';subst hk';have hc4r:wr.cell? ⟨w.heap.size,4,none⟩=some (.slice A x.attrs.length c):=by
     rw [hbel.cell (p:=⟨w.heap.size,4,none⟩) (by show w.heap.size<_;omega)];exact hc4
    by_cases h20:20<x.attrs.length
    ·have hv:Hid (V=67):=by show _=_;rw [← hv',if_pos rfl,if_pos h20]
     have h20':(20:Int)<x.attrs.length:=by omega
     clear hv' h20
     go_wp2_with fail
     go_ret;exact ⟨by rw [hv.out];rfl,hbwr⟩
    ·have hv:Hid (V=0):=by show _=_;rw [← hv',if_pos rfl,if_neg h20]
     have h20':(x.attrs.length:Int)≤20:=by omega
     clear hv' h20
     go_wp2_with fail
     go_ret;exact ⟨by rw [hv.out];rfl,hbwr⟩
end
section
open Go.RowKit
/-! Rows laid out flat. -/
theorem zBJ {α β:Type} (f:α→List β) (n:Nat) (hf:∀ a,(f a).length=n):∀ l:List α,(l.flatMap f).length=l.length * n
 | []=>by simp
 | a :: l=>by rw [List.flatMap_cons,List.length_append,hf,zBJ f n hf l,List.length_cons,Nat.add_mul];omega
theorem zDf {α β:Type} (f:α→List β) (n:Nat) (hf:∀ a,(f a).length=n):∀ (l:List α) (k j:Nat) (a:α),l[k]? = some a→j<n→(l.flatMap f)[k * n+j]? = (f a)[j]?
 | [],k,j,a,h,_=>by simp at h
 | b :: l,0,j,a,h,hj=>by
  simp at h;subst h
  rw [List.flatMap_cons,List.getElem?_append_left (by rw [hf];omega)]
  simp
 | b :: l,k+1,j,a,h,hj=>by
  rw [List.flatMap_cons,List.getElem?_append_right (by rw [hf,Nat.add_mul];omega)]
  have e:(k+1) * n+j-(f b).length=k * n+j:=by rw [hf,Nat.add_mul];omega
  rw [e];exact zDf f n hf l k j a (by simpa using h) hj
theorem zDj {α:Type} {w:World} {B:Nat} {e:TypeId} {n:Nat} {ad:Option Addr} {c:Nat} {l:List α} (f:α→List Value) (hf:∀ a,(f a).length=n) (h:w.ownsRow B e n (.slice ad l.length c) l.length (l.flatMap f)) :
  0<l.length → ∃ g,ad=some ⟨g,0,none⟩∧B≤g∧g<w.heap.size∧(∃ cur,w.heap[g]? = some (.cells cur e (0,0))) ∧ ∀ k a j u,l[k]? = some a→(f a)[j]? = some u→w.cell? ((⟨g,0,none⟩:Addr).add (k * n+j))=some u:=by
 intro hl;rcases h.2 with ⟨_,h0⟩ | ⟨g,cap,cur,hv,hb,hc,_⟩
 ·omega
 ·injection hv with hv h2 h3
  subst hv;refine ⟨g,rfl,hb,(Array.getElem?_eq_some_iff.1 hc).1,⟨cur,hc⟩,fun k a j u hk hu=>?_⟩
  have hj:j<n:=by rw [← hf a];exact (List.getElem?_eq_some_iff.1 hu).1
  refine h.cells (g:=g) rfl _ u ?_
  rw [zDf f n hf l k j a hk hj];exact hu
theorem zK8 {w:World} {B:Nat} {e:TypeId} {size:Nat} {v:Value} {n:Nat} {xs:List Value} (h:w.ownsRow B e size v n xs):∀ g,v.ownBlock=some g→B≤g∧g<w.heap.size ∧ ∃ cur,w.heap[g]? = some (.cells cur e (0,0)):=by
 intro g hg;rcases h.2 with ⟨rfl,_⟩ | ⟨g',cap,cur,rfl,hb,hc,_⟩
 ·cases hg
 ·injection hg with hg
  have hg:g'=g:=hg
  subst hg;exact ⟨hb,(Array.getElem?_eq_some_iff.1 hc).1,cur,hc⟩
end
section
open Go.RowKit
def cellsA (a:AttrD):List Value:=[strV a.name,strV a.value]
abbrev Slot:=ItemD × Option Addr × Nat
def cellsI (s:Slot):List Value:=[.int .i64 s.1.level,.int .i64 s.1.kind,strV s.1.name,strV s.1.text,.slice s.2.1 s.1.attrs.length s.2.2]
theorem zAx (a:AttrD):(cellsA a).length=2:=rfl
theorem zFP (s:Slot):(cellsI s).length=5:=rfl
def AttrsOwn (w:World) (B:Nat) (A:Option Addr) (c:Nat) (l:List AttrD):Prop:=w.ownsRow B 77 2 (.slice A l.length c) l.length (l.flatMap cellsA)
def ItemsOwn (w:World) (B:Nat) (A:Option Addr) (c:Nat) (S:List Slot):Prop:=w.ownsRow B 75 5 (.slice A S.length c) S.length (S.flatMap cellsI)
theorem zAI (g k:Nat):((⟨g,0,none⟩:Addr).add k)=⟨g,k,none⟩:=by unfold Addr.add;split <;> simp_all
theorem AttrsOwn.at {w:World} {B:Nat} {A:Option Addr} {c:Nat} {l:List AttrD} (h:AttrsOwn w B A c l):AttrsAt w w.heap.size A l:=fun hl=>by
 obtain ⟨g,rfl,hb,hg,_,hc⟩:=zDj cellsA zAx h hl
 refine ⟨_,rfl,hg,fun k a ha=>⟨?_,?_⟩⟩
 ·have:=hc k a 0 (strV a.name) ha rfl
  simpa using this
 ·have:=hc k a 1 (strV a.value) ha rfl
  rw [zAI] at this ⊢;exact this
theorem AttrsOwn.cap {w:World} {B:Nat} {A:Option Addr} {c:Nat} {l:List AttrD} (h:AttrsOwn w B A c l):l.length≤c:=by
 rcases h.2 with ⟨h1,h2⟩ | ⟨g,cap,cur,h1,_,_,h4,_⟩
 ·omega
 ·injection h1 with _ _ h3;omega
theorem ItemsOwn.at {w:World} {B:Nat} {A:Option Addr} {c:Nat} {S:List Slot} (h:ItemsOwn w B A c S) (ha:∀ s∈S,AttrsAt w w.heap.size s.2.1 s.1.attrs∧s.1.attrs.length≤s.2.2):ItemsAt w w.heap.size A (S.map (·.1)):=fun hl=>by
 have hl':0<S.length:=by simpa using hl
 obtain ⟨g,rfl,hb,hg,_,hc⟩:=zDj cellsI zFP h hl'
 refine ⟨_,rfl,hg,fun k x hx=>?_⟩
 rw [List.getElem?_map] at hx;obtain ⟨s,hs,rfl⟩:=Option.map_eq_some_iff.1 hx
 obtain ⟨h1,h2⟩:=ha s (List.mem_of_getElem? hs)
 have e:∀ j u,(cellsI s)[j]? = some u→w.cell? ⟨g,k * 5+j,none⟩=some u:=fun j u hu=>by
  have:=hc k s j u hs hu
  rwa [zAI] at this
 refine ⟨s.2.1,s.2.2,h1,h2,?_⟩
 rw [zAI];exact ⟨e 0 _ rfl,e 1 _ rfl,e 2 _ rfl,e 3 _ rfl,e 4 _ rfl⟩
theorem zKw:(Tryz.prog.info? 77).map (fun i=>(i.zero,i.size,i.bytes))=some (some (.agg #[.string ByteArray.empty,.string ByteArray.empty]),2,32):=by kernel_rfl
theorem AttrsAt.flat {w:World} {B:Nat} {ad:Addr} {l:List AttrD} (h:AttrsAt w B (some ad) l):∀ j u,(l.flatMap cellsA)[j]? = some u→w.cell? (ad.add j)=some u:=by
 intro j u hu;have hlen:=zBJ cellsA 2 zAx l
 have hj:j<l.length * 2:=by rw [← hlen];exact (List.getElem?_eq_some_iff.1 hu).1
 obtain ⟨q,r,hr,rfl⟩:∃ q r,r<2∧j=q * 2+r:=⟨j / 2,j % 2,by omega,by omega⟩
 have hq:q<l.length:=by omega
 have hx:l[q]? = some l[q]:=List.getElem?_eq_getElem hq
 rw [zDf cellsA 2 zAx l q r _ hx hr] at hu;obtain ⟨ad',e,_,hc⟩:=h (by omega)
 injection e with e;subst e
 obtain ⟨h0,h1⟩:=hc q _ hx
 match r,hr,hu with
 | 0,_,hu=>injection hu with hu;subst hu;exact h0
 | 1,_,hu =>
  injection hu with hu;subst hu
  have:ad.add (q * 2+1)=⟨(ad.add (q * 2)).block,(ad.add (q * 2)).off+1,none⟩:=by
   rw [← zBI];rfl
  rw [this];exact h1
theorem zII (l:List AttrD):∀ u∈l.flatMap cellsA,u.oneCell'=true:=by
 intro u hu;obtain ⟨a,_,ha⟩:=List.mem_flatMap.1 hu
 simp [cellsA,strV] at ha
 rcases ha with rfl | rfl <;> rfl
def ClonePost (w:World) (l:List AttrD) (e:Ending) (w':World):Prop:=∃ A c,e=.returned (.slice A l.length c)∧AttrsOwn w' w.heap.size A c l∧Below w.heap.size w w'
end
section
open Go.RowKit
/-! ## What turns,and what stands -/
structure Turn (M:Nat→Prop) (w w':World):Prop where
 os:w'.os=w.os
 tape:w'.tape=w.tape
 output:w'.output=w.output
 size:w.heap.size≤w'.heap.size
 block:∀ k,k<w.heap.size → ¬ M k→w'.heap[k]? = w.heap[k]?
def Grows (M M':Nat→Prop) (w w':World):Prop:=Turn M w w' ∧ ∀ b,M' b→M b∨w.heap.size≤b
theorem Turn.refl (M:Nat→Prop) (w:World):Turn M w w:=⟨rfl,rfl,rfl,Nat.le_refl _,fun _ _ _=>rfl⟩
theorem Turn.trans {M:Nat→Prop} {a b c:World} (h:Turn M a b) (k:Turn M b c):Turn M a c :=
 ⟨k.os.trans h.os,k.tape.trans h.tape,k.output.trans h.output,Nat.le_trans h.size k.size,fun i hi hm=>(k.block i (Nat.lt_of_lt_of_le hi h.size) hm).trans (h.block i hi hm)⟩
theorem Turn.mono {M M':Nat→Prop} {w w':World} (h:Turn M w w') (hm:∀ b,M b→M' b):Turn M' w w' :=
 ⟨h.os,h.tape,h.output,h.size,fun k hk hn=>h.block k hk (fun x=>hn (hm k x))⟩
theorem Turn.below {M:Nat→Prop} {B:Nat} {w w':World} (h:Turn M w w') (hB:∀ b,M b→B≤b) (hs:B≤w.heap.size):Below B w w' :=
 ⟨h.os,h.tape,h.output,h.size,fun k hk=>h.block k (Nat.lt_of_lt_of_le hk hs) (fun hm=>by have:=hB k hm;omega)⟩
theorem Turn.of_below {M:Nat→Prop} {w w':World} (h:Below w.heap.size w w'):Turn M w w' :=
 ⟨h.os,h.tape,h.output,h.size,fun k hk _=>h.block k hk⟩
theorem Turn.drew {M:Nat→Prop} {a w:World} (h:Turn M a w):Turn M a w.drew:=⟨h.os,h.tape,h.output,h.size,h.block⟩
theorem Turn.setCell {M:Nat→Prop} {a w:World} (h:Turn M a w) {p:Addr} (hp:M p.block∨a.heap.size≤p.block) (u:Value):Turn M a (w.setCell p u):=by
 refine ⟨h.os,h.tape,h.output,?_,fun k hk hm=>?_⟩
 ·have:(w.setCell p u).heap.size=w.heap.size:=by show (w.heap.modify _ _).size=_;rw [Array.size_modify]
  rw [this];exact h.size
 ·rw [Below.heap_setCell w p u k (fun e=>by
   rcases hp with hp | hp
   ·exact hm (e ▸ hp)
   ·omega)]
  exact h.block k hk hm
theorem Turn.alloc {M:Nat→Prop} {a w:World} (h:Turn M a w) (o:Obj):Turn M a (w.alloc o) :=
 ⟨h.os,h.tape,h.output,Nat.le_trans h.size (by simp),fun k hk hm=>(Below.heap_alloc w o k (Nat.lt_of_lt_of_le hk h.size)).trans (h.block k hk hm)⟩
theorem Grows.refl (M:Nat→Prop) (w:World):Grows M M w w:=⟨Turn.refl M w,fun _ h=>.inl h⟩
theorem Grows.trans {M M' M'':Nat→Prop} {a b c:World} (h:Grows M M' a b) (k:Grows M' M'' b c):Grows M M'' a c:=by
 refine ⟨⟨k.1.os.trans h.1.os,k.1.tape.trans h.1.tape,k.1.output.trans h.1.output,Nat.le_trans h.1.size k.1.size,fun i hi hm=>?_⟩,fun x hx=>?_⟩
 ·refine (k.1.block i (Nat.lt_of_lt_of_le hi h.1.size) (fun hm'=>?_)).trans (h.1.block i hi hm)
  rcases h.2 i hm' with h' | h'
  ·exact hm h'
  ·omega
 ·rcases k.2 x hx with h' | h'
  ·exact h.2 x h'
  ·exact .inr (Nat.le_trans h.1.size h')
theorem Grows.of_below {M:Nat→Prop} {w w':World} (h:Below w.heap.size w w'):Grows M M w w':=⟨Turn.of_below h,fun _ h=>.inl h⟩
/-! ## A tree -/
structure Ent where
 par:Int
 d:NodeD
 kids:List Int
structure Lay where
 nb:Int→Nat
 att:Int→Value
 kid:Int→Value
def nodeC (id:Int) (e:Ent) (a k:Value):Array Value:=#[.int .i64 id,.int .i64 e.par,.int .i64 e.d.kind,.int .i64 0,strV e.d.name,strV e.d.text,a,k]
def treeC (mb:Nat) (root next:Int):Array Value:=#[.map (some mb),.int .i64 root,.int .i64 next]
def attRow (w:World) (v:Value) (l:List AttrD):Prop:=w.ownsRow 0 77 2 v l.length (l.flatMap cellsA)
def intRow (w:World) (v:Value) (l:List Int):Prop:=w.ownsRow 0 3 1 v l.length (l.map (Value.int .i64))
def Apart (v v':Value):Prop:=v.ownBlock=none∨v.ownBlock≠v'.ownBlock
structure TreeAt (w:World) (t mb:Nat) (y:Lay) (g:Int→Option Ent) (root next:Int) (n:Nat):Prop where
 tree:w.heap[t]? = some (.cells (treeC mb root next) 95 (0,0))
 map:MapG w mb (fun id=>(g id).map fun _=>y.nb id) n
 node:∀ id e,g id=some e→w.heap[y.nb id]? = some (.cells (nodeC id e (y.att id) (y.kid id)) 97 (0,0))
 att:∀ id e,g id=some e→attRow w (y.att id) e.d.attrs
 kid:∀ id e,g id=some e→intRow w (y.kid id) e.kids
 apart:∀ id id' e e',g id=some e→g id'=some e'→id≠id'→y.nb id≠y.nb id'∧Apart (y.att id) (y.att id')∧Apart (y.kid id) (y.kid id')
def Mine (t mb:Nat) (y:Lay) (g:Int→Option Ent) (b:Nat):Prop:=b=t∨b=mb ∨ ∃ id e,g id=some e∧(b=y.nb id∨(y.att id).ownBlock=some b∨(y.kid id).ownBlock=some b)
theorem zAC {w w':World} {B:Nat} {e:TypeId} {size:Nat} {v:Value} {n:Nat} {xs:List Value} (h:w.ownsRow B e size v n xs) (hk:∀ b,v.ownBlock=some b→w'.heap[b]? = w.heap[b]?):w'.ownsRow B e size v n xs:=by
 refine ⟨h.1,?_⟩
 rcases h.2 with hn | ⟨g,cap,cur,rfl,h1,h2,rest⟩
 ·exact .inl hn
 ·exact .inr ⟨g,cap,cur,rfl,h1,by rw [hk g rfl];exact h2,rest⟩
theorem zAJ {w:World} {B:Nat} {e:TypeId} {size:Nat} {v:Value} {n:Nat} {xs:List Value} (h:w.ownsRow B e size v n xs) {b:Nat} (hb:v.ownBlock=some b):b<w.heap.size:=(h.lt b hb).2
theorem zCO {w:World} {B:Nat} {e:TypeId} {size:Nat} {v:Value} {n:Nat} {xs:List Value} (h:w.ownsRow B e size v n xs) {b:Nat} (hb:v.ownBlock=some b):∃ cur,w.heap[b]? = some (.cells cur e (0,0)):=(zK8 h b hb).2.2
theorem zAT {w:World} {B:Nat} {e:TypeId} {size:Nat} {v:Value} {n:Nat} {xs:List Value} (h:w.ownsRow B e size v n xs) {b:Nat} {o:Obj} (ho:w.heap[b]? = some o) (hne:∀ cur,o≠.cells cur e (0,0)):v.ownBlock≠some b:=fun hb=>by
 obtain ⟨cur,hc⟩:=zCO h hb
 rw [ho] at hc
 injection hc with hc
 exact hne cur hc
section
variable {w:World} {t mb:Nat} {y:Lay} {g:Int→Option Ent} {root next:Int} {n:Nat}
theorem TreeAt.lt (h:TreeAt w t mb y g root next n) {b:Nat} (hb:Mine t mb y g b):b<w.heap.size:=by
 rcases hb with rfl | rfl | ⟨id,e,he,rfl | hb | hb⟩
 ·exact (Array.getElem?_eq_some_iff.1 h.tree).1
 ·exact h.map.lt
 ·exact (Array.getElem?_eq_some_iff.1 (h.node id e he)).1
 ·exact zAJ (h.att id e he) hb
 ·exact zAJ (h.kid id e he) hb
theorem TreeAt.keep {w':World} (h:TreeAt w t mb y g root next n) (hk:∀ b,Mine t mb y g b→w'.heap[b]? = w.heap[b]?):TreeAt w' t mb y g root next n where
 tree:=by rw [hk t (.inl rfl)];exact h.tree
 map:=h.map.keep (hk mb (.inr (.inl rfl)))
 node:=fun id e he=>by rw [hk _ (.inr (.inr ⟨id,e,he,.inl rfl⟩))];exact h.node id e he
 att:=fun id e he=>zAC (h.att id e he) fun b hb=>hk b (.inr (.inr ⟨id,e,he,.inr (.inl hb)⟩))
 kid:=fun id e he=>zAC (h.kid id e he) fun b hb=>hk b (.inr (.inr ⟨id,e,he,.inr (.inr hb)⟩))
 apart:=h.apart
theorem TreeAt.below {w':World} (h:TreeAt w t mb y g root next n) (hb:Below w.heap.size w w'):TreeAt w' t mb y g root next n:=h.keep fun b hm=>hb.block b (h.lt hm)
theorem TreeAt.turn {w':World} {M:Nat→Prop} (h:TreeAt w t mb y g root next n) (ht:Turn M w w') (hm:∀ b,Mine t mb y g b → ¬ M b):TreeAt w' t mb y g root next n:=h.keep fun b hb=>ht.block b (h.lt hb) (hm b hb)
theorem TreeAt.t_not (h:TreeAt w t mb y g root next n):t≠mb ∧ ∀ id e,g id=some e→t≠y.nb id∧(y.att id).ownBlock≠some t∧(y.kid id).ownBlock≠some t:=by
 obtain ⟨es,clock,hm⟩:=h.map.obj
 refine ⟨fun e=>?_,fun id e he=>⟨fun e'=>?_,zAT (h.att id e he) h.tree (fun cur hc=>?_),zAT (h.kid id e he) h.tree (fun cur hc=>?_)⟩⟩
 ·have:=h.tree;rw [e,hm] at this;injection this with this;cases this
 ·have:=h.tree;rw [e',h.node id e he] at this;injection this with this;injection this with _ this;revert this;decide
 ·injection hc with _ hc;revert hc;decide
 ·injection hc with _ hc;revert hc;decide
theorem TreeAt.mb_not (h:TreeAt w t mb y g root next n):∀ id e,g id=some e→mb≠y.nb id∧(y.att id).ownBlock≠some mb∧(y.kid id).ownBlock≠some mb:=by
 obtain ⟨es,clock,hm⟩:=h.map.obj
 refine fun id e he=>⟨fun e'=>?_,zAT (h.att id e he) hm (fun cur hc=>?_),zAT (h.kid id e he) hm (fun cur hc=>?_)⟩
 ·have:=h.node id e he;rw [← e',hm] at this;injection this with this;cases this
 ·cases hc
 ·cases hc
theorem TreeAt.nb_not (h:TreeAt w t mb y g root next n) {p:Int} {e:Ent} (hp:g p=some e):∀ id e',g id=some e'→(y.att id).ownBlock≠some (y.nb p)∧(y.kid id).ownBlock≠some (y.nb p):=by
 refine fun id e' he=>⟨zAT (h.att id e' he) (h.node p e hp) (fun cur hc=>?_),zAT (h.kid id e' he) (h.node p e hp) (fun cur hc=>?_)⟩
 ·injection hc with _ hc;revert hc;decide
 ·injection hc with _ hc;revert hc;decide
theorem TreeAt.rows_not (h:TreeAt w t mb y g root next n):∀ id e id' e',g id=some e→g id'=some e' → ∀ b,(y.att id).ownBlock=some b→(y.kid id').ownBlock≠some b:=by
 intro id e id' e' he he' b hb hb';obtain ⟨c1,h1⟩:=zCO (h.att id e he) hb
 obtain ⟨c2,h2⟩:=zCO (h.kid id' e' he') hb'
 rw [h1] at h2
 injection h2 with h2;injection h2 with _ h2;revert h2;decide
end
end
section
open Go.RowKit
def Keep (N:Nat) (Fp:Nat→Prop) (A B:World):Prop:=Turn (fun b=>N≤b ∧ ¬ Fp b) A B
def StabF (N:Nat) (Fp:Nat→Prop) (p:World→Prop):Prop:=∀ A B,p A→Keep N Fp A B→p B
def Left (Fp:Nat→Prop) (W:World) (p:(Nat→Prop)→World→Prop) (W':World):Prop:=∃ Fp',Grows Fp Fp' W W'∧(∀ b,Fp' b→b<W'.heap.size)∧p Fp' W'
theorem Keep.of_below {N:Nat} {Fp:Nat→Prop} {A B:World} (h:Below A.heap.size A B):Keep N Fp A B:=Turn.of_below h
theorem Keep.block {N:Nat} {Fp:Nat→Prop} {A B:World} (h:Keep N Fp A B) {k:Nat} (hk:k<A.heap.size) (hn:k<N∨Fp k):B.heap[k]? = A.heap[k]?:=Turn.block h k hk (fun ⟨q1,q2⟩=>by rcases hn with h | h;omega;exact q2 h)
def IterG {α:Type} (P:Program) (gf:Nat) (lb:Array Value) (encs:α→Array Value) (xs:List α) (D:Nat→Prop) (w:World):Prop :=
 ∀ (n l:Nat) (J:Nat→(Nat→Prop)→World→Prop) (Jx:(Nat→Prop)→World→Prop) (W:World) (Fp0:Nat→Prop),
  (∀ b,D b→b<w.heap.size∧W.heap[b]? = w.heap[b]?)→w.heap.size≤W.heap.size→(∀ b,Fp0 b→b<W.heap.size ∧ ¬ D b) →
  (∀ i Fp,StabF W.heap.size Fp (J i Fp))→(∀ Fp,StabF W.heap.size Fp (Jx Fp)) →
  (∀ i x Fp W1,xs[i]? = some x→J i Fp W1→W.heap.size≤W1.heap.size→(∀ b,Fp b→b<W1.heap.size)→YieldAt Fence.wide n P l (encs x) W1 fun e W' =>
   (e=.returned (.bool true)∧Left Fp W1 (J (i+1)) W')∨(e=.returned (.bool false)∧Left Fp W1 Jx W')) →
  J 0 Fp0 W→CallsIn Fence.wide n P gf (#[.func (.yield l) #[] #[]]++lb) W fun e W'=>(∃ v,e=.returned v)∧(Left Fp0 W (J xs.length) W'∨Left Fp0 W Jx W')
def bodyR (I:Nat→(Nat→Prop)→World→Prop) (Ix:Code→(Nat→Prop)→World→Prop) (i:Nat) (Fp:Nat→Prop) (W:World):Exit→Act→World→Prop
 | .normal,_,W'=>Left Fp W (I (i+1)) W'
 | .ret,_,W'=>Left Fp W (Ix .ret) W'
 | .exit id,_,W'=>Left Fp W (Ix (.exit id)) W'
 | .goto t,_,W'=>Left Fp W (Ix (.goto t)) W'
 | .panic _,_,_=>False
 | .outgrown,_,_=>False
theorem zAg {M:Nat→Prop} {l:Nat} (W:World) (o:Obj) (h:M l):Turn M W (W.putObj l o):=⟨rfl,rfl,rfl,by simp,fun _ _ hm=>World.putObj_heap_other (fun e=>hm (e ▸ h))⟩
theorem RoundIn.anyD {m m':Nat} {P:Program} {l:Nat} {f:FuncId} {tmps:Array Value} {assign body:Code} {w:World} {R:Ending→World→Prop}
  (h:RoundIn Fence.wide m P l f tmps assign body w R):RoundIn Fence.wide m' P l f tmps assign body w R:=⟨h.1,fun c cs _=>h.2 c cs (room_wide _)⟩
theorem RoundIn.inR {m m':Nat} {P:Program} {l:Nat} {f:FuncId} {tmps:Array Value} {assign body:Code} {w:World} {R:Ending→World→Prop} (l':Nat)
  (h:RoundIn Fence.wide m P l f tmps assign body w R):RoundIn (Fence.wide.inRound l') m' P l f tmps assign body w R:=RoundIn.anyD (m':=m') h
theorem CallsIn.anyD {m m':Nat} {P:Program} {f:FuncId} {args:Array Value} {w:World} {R:Ending→World→Prop} (h:CallsIn Fence.wide m P f args w R):CallsIn Fence.wide m' P f args w R:=callsIn_wide.2 (callsIn_wide.1 h)
theorem zCE {α:Type} {P:Program} {n:Nat} {g:Operand} {ps:Array Tmp} {assign body:Code} {Q:Exit→Act→World→Prop} {a:Act} {w:World}
  {gf:Nat} {lb:Array Value} (hg:a.eval g=.func (.func gf) #[] lb) (eg:∀ args w,(callFunc gf args).run P w=.ok (.enter gf args) w)
  {xs:List α} {encs:α→Array Value} {D:Nat→Prop} {w0:World} (hit:IterG P gf lb encs xs D w0) (hD:∀ b,D b→b<w0.heap.size∧w.heap[b]? = w0.heap[b]?) (hsz:w0.heap.size≤w.heap.size)
  (hps:∀ x,(encs x).size=ps.size) (F0:Nat→Prop) (hC:∀ b,F0 b→b<w.heap.size ∧ ¬ D b)
  (I:Nat→(Nat→Prop)→World→Prop) (Ix:Code→(Nat→Prop)→World→Prop) (hI:∀ i Fp,StabF w.heap.size Fp (I i Fp)) (hIx:∀ c Fp,StabF w.heap.size Fp (Ix c Fp)) (h0:I 0 F0 w) (a₁:α→Act)
  (hassign:∀ (l:Nat) (x:α) (W:World) (K:Act→World→Prop),K (a₁ x) W→assign.wpIn (Fence.wide.inRound l) n P (Exit.then K (fun _ _ _=>False)) { tmps:=(ps.zip (encs x)).foldl (fun t (p,v)=>t.setIfInBounds p v) a.tmps,defers:=[] } W)
  (hbody:∀ (l i:Nat) (x:α) (Fp:Nat→Prop) (W:World),xs[i]? = some x→I i Fp W→w.heap.size≤W.heap.size→(∀ b,Fp b→b<W.heap.size)→body.wpIn (Fence.wide.inRound l) n P (bodyR I Ix i Fp W) (a₁ x) W)
  (hdone:∀ (W:World),Left F0 w (fun Fp V=>I xs.length Fp V ∧ ¬ Fp w.heap.size) W→W.heap[w.heap.size]? = some (.deferred (some []))→Q .normal { a with defers:={ target:=.collected w.heap.size,args:=#[] } :: a.defers } W)
  (hstop:∀ (c:Code) (W:World),Left F0 w (fun Fp V=>Ix c Fp V ∧ ¬ Fp w.heap.size) W→W.heap[w.heap.size]? = some (.deferred (some []))→c.wpIn Fence.wide n P Q { a with defers:={ target:=.collected w.heap.size,args:=#[] } :: a.defers } W) :
  (Code.rangeFunc g ps assign body).wpIn Fence.wide n P Q a w:=by
 refine wpIn_rangeFunc ?_
 intro fn hfn;obtain ⟨q,hq⟩:∃ q,q=w.heap.size:=⟨_,rfl⟩
 obtain ⟨rec,hrec⟩:∃ rec:LoopState→Option Code→Loop,rec=fun st pe=>{ state:=st,pending:=pe,fn,tmps:=a.tmps,params:=ps,assign,body,defers:=w.heap.size }:=⟨_,rfl⟩
 obtain ⟨W1,hW1⟩:∃ W1,(w.alloc (.deferred (some []))).alloc (.loop (rec .ready none))=W1:=⟨_,rfl⟩
 have hz1:W1.heap.size=q+2:=by rw [← hW1,hq];simp
 have hL1:W1.heap[q+1]? = some (.loop (rec .ready none)):=by
  rw [← hW1,hq];have:=World.alloc_heap_new (w.alloc (.deferred (some []))) (.loop (rec .ready none));rwa [World.size_alloc] at this
 have hK1:W1.heap[q]? = some (.deferred (some [])):=by
  rw [← hW1,hq];exact (Below.heap_alloc _ _ _ (by simp)).trans (World.alloc_heap_new w _)
 have hb1:Below w.heap.size w W1:=by rw [← hW1];exact ((Below.refl _ w).alloc (Nat.le_refl _) _).alloc (by simp) _
 -- the loop's own word,beside the caller's
 let Z (p:(Nat→Prop)→World→Prop) (st:LoopState) (pe:Option Code) (Fi:Nat→Prop) (W:World):Prop :=
  ∃ Fb:Nat→Prop,(∀ b,Fi b ↔ Fb b∨b=q+1)∧(∀ b,Fb b→b≠q+1∧b≠q)∧Grows F0 Fb w W∧(∀ b,Fb b→b<W.heap.size)∧p Fb W∧W.heap[q+1]? = some (.loop (rec st pe))∧W.heap[q]? = some (.deferred (some []))
 have stabZ:∀ (p:(Nat→Prop)→World→Prop) st pe Fi,(∀ Fb,StabF w.heap.size Fb (p Fb))→StabF W1.heap.size Fi (Z p st pe Fi):=by
  rintro p st pe Fi hp A B ⟨Fb,e1,e2,e3,e4,e5,e6,e7⟩ hk;have hz6:=(Array.getElem?_eq_some_iff.1 e6).1
  have hz7:=(Array.getElem?_eq_some_iff.1 e7).1
  have hk':Turn (fun b=>w.heap.size≤b ∧ ¬ Fb b) A B:=hk.mono fun b ⟨q1,q2⟩=>⟨by omega,fun h=>q2 ((e1 b).2 (.inl h))⟩
  refine ⟨Fb,e1,e2,⟨⟨hk.os.trans e3.1.os,hk.tape.trans e3.1.tape,hk.output.trans e3.1.output,Nat.le_trans e3.1.size hk.size,fun b hb hf=>?_⟩,e3.2⟩,fun b hb=>Nat.lt_of_lt_of_le (e4 b hb) hk.size,hp Fb A B e5 hk',(Keep.block hk hz6 (.inl (by omega))).trans e6,(Keep.block hk hz7 (.inl (by omega))).trans e7⟩
  exact (Keep.block hk (Nat.lt_of_lt_of_le hb e3.1.size) (.inl (by omega))).trans (e3.1.block b hb hf)
 refine ⟨q+1,[{ target:=.collected q,args:=#[] }],W1,{ target:=.fn (.func gf) lb,args:=#[.func (.yield (q+1)) #[] #[]] },W1,gf,
  #[.func (.yield (q+1)) #[] #[]]++lb,W1,?_,?_,?_,?_,fun h=>(by cases h),?_⟩
 ·rw [← hW1,hrec,hq];exact run_enterLoop_outer _ _ _ _ _
 ·simp only [resolve,hg]
  simp [go_sem]
 ·intro f' _;trivial
 ·simp [invoke,go_sem,eg]
 ·have start:∀ p:(Nat→Prop)→World→Prop,(∀ Fb,StabF w.heap.size Fb (p Fb))→p F0 w→Z p .ready none (fun b=>F0 b∨b=q+1) W1:=fun p hp hp0 =>
   ⟨F0,fun b=>Iff.rfl,fun b hb=>by have:=(hC b hb).1;omega,⟨Turn.of_below hb1,fun b hb=>.inl hb⟩,fun b hb=>by have:=(hC b hb).1;omega,hp F0 w W1 hp0 (Keep.of_below hb1),hL1,hK1⟩
  refine (hit (n-1) (q+1) (fun i=>Z (I i) .ready none) (fun Fi W=>∃ c,Z (Ix c) .done (some c) Fi W) W1 (fun b=>F0 b∨b=q+1) (fun b hb=>?_) (by omega) (fun b hb=>?_)
   (fun i Fi=>stabZ _ _ _ Fi (hI i)) (fun Fi A B ⟨c,ha⟩ hb=>⟨c,stabZ _ _ _ Fi (hIx c) A B ha hb⟩) ?_ (start _ (hI 0) h0)).mono ?_
  ·obtain ⟨q1,q2⟩:=hD b hb
   exact ⟨q1,(hb1.block b (by omega)).trans q2⟩
  ·rcases hb with hb | rfl
   ·obtain ⟨q1,q2⟩:=hC b hb
    exact ⟨by omega,q2⟩
   ·exact ⟨by omega,fun hd=>by have:=(hD _ hd).1;omega⟩
  ·rintro i x Fi W hx ⟨Fb,e1,e2,e3,e4,hi,hl,hk⟩ hsw hFi
   have hlt:q+1<W.heap.size:=(Array.getElem?_eq_some_iff.1 hl).1
   have hy:=run_yield (P:=P) (args:=encs x) hl (by rw [hrec];exact hps x)
   rw [hrec] at hy;refine ⟨fn,_,assign,body,hy,RoundIn.anyD (roundIn_of_wpIn hfn (hassign _ x W _ ?_))⟩
   clear hy;refine ⟨_,run_beginRound hl (by rw [hrec]),?_⟩
   obtain ⟨W2,hW2⟩:∃ W2,W2=W.putObj (q+1) (.loop { rec .ready none with state:=.busy }):=⟨_,rfl⟩
   have hl2:W2.heap[q+1]? = some (.loop { rec .ready none with state:=.busy }):=by rw [hW2];exact World.putObj_heap_same hlt
   have hk2:W2.heap[q]? = some (.deferred (some [])):=by rw [hW2];exact (World.putObj_heap_other (by omega)).trans hk
   have hz2:W2.heap.size=W.heap.size:=by rw [hW2];simp
   have ht2:Turn Fi W W2:=by rw [hW2];exact zAg W _ ((e1 _).2 (.inr rfl))
   have kp:∀ (p:(Nat→Prop)→World→Prop) (Fb':Nat→Prop) (V:World) (o:Obj),(∀ F,StabF w.heap.size F (p F))→(∀ b,Fb' b→b≠q+1)→p Fb' V→p Fb' (V.putObj (q+1) o):=fun p Fb' V o hp hne hv =>
    hp Fb' V _ hv (zAg V o ⟨by omega,fun h=>hne _ h rfl⟩)
   have hi2:I i Fb W2:=by rw [hW2];exact kp _ _ _ _ (hI i) (fun b hb=>(e2 b hb).1) hi
   rw [← hW2];refine wpIn_mono (hbody _ i x Fb W2 hx hi2 (by omega) (fun b hb=>by rw [hz2];exact e4 b hb)) ?_
   have fin:∀ (p:(Nat→Prop)→World→Prop) (jump:Option Code) (W3:World),(∀ F,StabF w.heap.size F (p F))→Left Fb W2 p W3 →
     (Instr.endRound (q+1) jump).run P W3=.ok (.bool jump.isNone) (W3.putObj (q+1) (.loop (rec (if jump.isNone then .ready else .done) jump))) ∧
     Left Fi W (Z p (if jump.isNone then .ready else .done) jump) (W3.putObj (q+1) (.loop (rec (if jump.isNone then .ready else .done) jump))):=by
    rintro p jump W3 hp ⟨Fb',g1,g2,g3⟩;have hcn:∀ b,Fb' b→b≠q+1∧b≠q:=fun b hb=>by
     rcases g1.2 b hb with h | h
     ·exact e2 b h
     ·omega
    have hl3:W3.heap[q+1]? = some (.loop { rec .ready none with state:=.busy }):=(g1.1.block _ (by omega) (fun h=>(e2 _ h).1 rfl)).trans hl2
    have hk3:W3.heap[q]? = some (.deferred (some [])):=(g1.1.block _ (by omega) (fun h=>(e2 _ h).2 rfl)).trans hk2
    have hz3:=(Array.getElem?_eq_some_iff.1 hl3).1
    have hrun:=run_endRound (P:=P) jump hl3
    refine ⟨by rw [hrec] at hrun ⊢;exact hrun,fun b=>Fb' b∨b=q+1,⟨?_,fun b hb=>?_⟩,fun b hb=>?_,Fb',fun b=>Iff.rfl,hcn,?_,fun b hb=>by simp;exact g2 b hb,kp _ _ _ _ hp (fun b hb=>(hcn b hb).1) g3,World.putObj_heap_same hz3,(World.putObj_heap_other (by omega)).trans hk3⟩
    ·have t3:Turn Fi W2 W3:=g1.1.mono fun b hb=>(e1 b).2 (.inl hb)
     exact (ht2.trans t3).trans (zAg W3 _ ((e1 _).2 (.inr rfl)))
    ·rcases hb with hb | rfl
     ·rcases g1.2 b hb with h | h
      ·exact .inl ((e1 b).2 (.inl h))
      ·exact .inr (by omega)
     ·exact .inl ((e1 _).2 (.inr rfl))
    ·rcases hb with hb | rfl
     ·simp;exact g2 b hb
     ·simp;exact hz3
    ·have s1:Grows F0 Fb w W2:=by
      rw [hW2];exact ⟨⟨e3.1.os,e3.1.tape,e3.1.output,by simp;exact e3.1.size,fun b hb hf=>(World.putObj_heap_other (by omega)).trans (e3.1.block b hb hf)⟩,e3.2⟩
     have s2:=s1.trans g1
     exact ⟨⟨s2.1.os,s2.1.tape,s2.1.output,by simp;exact s2.1.size,fun b hb hf=>(World.putObj_heap_other (by omega)).trans (s2.1.block b hb hf)⟩,s2.2⟩
   rintro e a3 W3 hp;cases e with
   | normal =>
    obtain ⟨hr,hl4⟩:=fin _ none W3 (hI _) hp
    exact ⟨_,_,hr,.inl ⟨rfl,hl4⟩⟩
   | ret =>
    obtain ⟨hr,Fp',h1,h2,h3⟩:=fin _ (some .ret) W3 (hIx _) hp
    exact ⟨_,_,hr,.inr ⟨rfl,Fp',h1,h2,_,h3⟩⟩
   | exit id =>
    obtain ⟨hr,Fp',h1,h2,h3⟩:=fin _ (some (.exit id)) W3 (hIx _) hp
    exact ⟨_,_,hr,.inr ⟨rfl,Fp',h1,h2,_,h3⟩⟩
   | goto t =>
    obtain ⟨hr,Fp',h1,h2,h3⟩:=fin _ (some (.goto t)) W3 (hIx _) hp
    exact ⟨_,_,hr,.inr ⟨rfl,Fp',h1,h2,_,h3⟩⟩
   | panic ch=>exact hp.elim
   | outgrown=>exact hp.elim
  ·have out:∀ (p:(Nat→Prop)→World→Prop) st pe Fi (W2:World) (o:Obj),(∀ F,StabF w.heap.size F (p F))→Z p st pe Fi W2→Left F0 w (fun Fp V=>p Fp V ∧ ¬ Fp w.heap.size) (W2.putObj (q+1) o)∧(W2.putObj (q+1) o).heap[w.heap.size]? = some (.deferred (some [])):=by
    rintro p st pe Fi W2 o hp ⟨Fb,e1,e2,e3,e4,e5,e6,e7⟩;refine ⟨⟨Fb,⟨⟨e3.1.os,e3.1.tape,e3.1.output,by simp;exact e3.1.size,fun b hb hf=>(World.putObj_heap_other (by omega)).trans (e3.1.block b hb hf)⟩,e3.2⟩,fun b hb=>by simp;exact e4 b hb,hp Fb W2 _ e5 (zAg W2 o ⟨by omega,fun h=>(e2 _ h).1 rfl⟩),fun h=>(e2 _ h).2 hq.symm⟩,?_⟩
    rw [← hq];exact (World.putObj_heap_other (by omega)).trans e7
   rintro e W2 ⟨⟨v,rfl⟩,(⟨Fi,_,_,hz⟩ | ⟨Fi,_,_,c,hz⟩)⟩
   ·have hl:=hz
    obtain ⟨_,_,_,_,_,_,hl,_⟩:=hl
    obtain ⟨o1,o2⟩:=out _ _ _ _ _ (.loop { rec .ready none with state:=.exhausted }) (hI _) hz
    rw [hq];exact ⟨none,_,by have:=run_endLoop (P:=P) hl (by rw [hrec];simp);rw [hrec] at this;rw [← hq];exact this,hdone _ (by rw [hrec] at o1;exact o1) (by rw [hrec] at o2;exact o2)⟩
   ·have hl:=hz
    obtain ⟨_,_,_,_,_,_,hl,_⟩:=hl
    obtain ⟨o1,o2⟩:=out _ _ _ _ _ (.loop { rec .done (some c) with state:=.exhausted }) (hIx c) hz
    rw [hq];exact ⟨some c,_,by have:=run_endLoop (P:=P) hl (by rw [hrec];simp);rw [hrec] at this;rw [← hq];exact this,hstop c _ (by rw [hrec] at o1;exact o1) (by rw [hrec] at o2;exact o2)⟩
end
end Go.Proofs.YtcombcoilpmnkaaGreat

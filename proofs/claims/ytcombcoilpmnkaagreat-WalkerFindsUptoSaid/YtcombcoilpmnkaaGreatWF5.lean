/-
  Texts of this claim, joined (by a program of the claim's author): GInv, GSt, GStep, GMov, GStepB, GFind, GInsA, GDelA, GAtt, GAtS, GAttP, GGrC, GGrow.
-/
import Derived.Test.YtcombcoilpmnkaaGreatWF4
import Derived.Test.YtcombcoilpmnkaaGreatWF3
import Derived.Test.YtcombcoilpmnkaaGreatWF1
import Derived.Shelf.Spec.SlicesInsert
import Derived.WalkSpells
import Derived.Test.YtcombcoilpmnkaaGreatWF2
import Derived.Sort.Walk0
namespace Go.Proofs.YtcombcoilpmnkaaGreat
set_option maxRecDepth 100000
set_option maxHeartbeats 16000000
section
namespace Fo
theorem sub_ent:∀ (f:Fo) (p lv q:Int) (l:Int) (d:NodeD) (ks:Fo),f.ids.Nodup→f.sub p lv=some (l,d,ks) →
  (∃ q',f.ent q p=some ⟨q',d,ks.roots⟩∧(q'=q∨q'∈f.ids))∧(∀ x∈ks.ids,f.ent q x=ks.ent p x)∧ks.ids.Nodup∧p ∉ ks.ids∧(∀ x∈ks.ids,x∈f.ids)∧ks.cnt<f.cnt∧(f.Leaf→ks.Leaf∧(d.kind=2→ks=nil))
 | nil,_,_,_,_,_,_,_,h=>by simp [sub] at h
 | cons id d0 ks0 r,p,lv,q,l,d,ks,hn,h=>by
  simp only [ids,List.nodup_cons,List.nodup_append,List.mem_append,not_or] at hn;obtain ⟨⟨hk,hr⟩,nk,nr,hd⟩:=hn
  rw [sub] at h;by_cases e:id=p
  ·rw [if_pos e] at h
   injection h with h;injection h with h1 h;injection h with h2 h3
   subst h1;subst h2;subst h3;subst e;refine ⟨⟨q,by rw [ent,if_pos rfl],.inl rfl⟩,fun x hx=>?_,nk,hk,fun x hx=>by simp [ids,hx],by simp [cnt];omega,fun hl=>⟨hl.2.1,hl.1⟩⟩
   have hxi:x≠id:=by rintro rfl;exact hk hx
   rw [ent,if_neg hxi];obtain ⟨e,he⟩:=ent_some ks0 id x hx
   rw [he]
  ·rw [if_neg e] at h
   cases hs:ks0.sub p (lv+1) with
   | some y =>
    rw [hs] at h
    injection h with h
    subst h;have hpk:=zFq ks0 p _ _ hs
    obtain ⟨⟨q',h1,h2⟩,h3,h4,h5,h6,h7,h8⟩:=sub_ent ks0 p (lv+1) id l d ks nk hs
    refine ⟨⟨q',?_,?_⟩,fun x hx=>?_,h4,h5,fun x hx=>by simp [ids,h6 x hx],by simp [cnt];omega,fun hl=>h8 hl.2.1⟩
    ·rw [ent,if_neg (fun h=>e h.symm),h1]
    ·rcases h2 with h2 | h2
     ·exact .inr (by simp [ids,h2])
     ·exact .inr (by simp [ids,h2])
    ·have hxk:=h6 x hx
     have hxi:x≠id:=by rintro rfl;exact hk hxk
     rw [ent,if_neg hxi,h3 x hx];obtain ⟨e,he⟩:=ent_some ks p x hx
     rw [he]
   | none =>
    rw [hs] at h;have hpk:=zCP ks0 p _ hs
    obtain ⟨⟨q',h1,h2⟩,h3,h4,h5,h6,h7,h8⟩:=sub_ent r p lv q l d ks nr h
    refine ⟨⟨q',?_,?_⟩,fun x hx=>?_,h4,h5,fun x hx=>by simp [ids,h6 x hx],by simp [cnt];omega,fun hl=>h8 hl.2.2⟩
    ·rw [ent,if_neg (fun h=>e h.symm),ent_not ks0 id p hpk]
     exact h1
    ·rcases h2 with h2 | h2
     ·exact .inl h2
     ·exact .inr (by simp [ids,h2])
    ·have hxr:=h6 x hx
     have hxi:x≠id:=by rintro rfl;exact hr hxr
     rw [ent,if_neg hxi,ent_not ks0 id x (fun h'=>hd x h' x hxr rfl)]
     exact h3 x hx
theorem lev_of {g:Int→Option Ent} {p:Int}:∀ (f:Fo) (q:Int) (lv:Nat) (l:Int) (d:NodeD) (ks:Fo),Agr g q f→(q=0∧lv=0∨q≠0 ∧ ∃ m,lv=m+1∧Lev g m q)→(∀ x∈f.ids,x≠0)→f.sub p (lv:Int)=some (l,d,ks)→Lev g l.toNat p
 | nil,_,_,_,_,_,_,_,_,h=>by simp [sub] at h
 | cons id d0 ks0 r,q,lv,l,d,ks,ha,hq,h0,h=>by
  obtain ⟨a1,a2,a3⟩:=ha
  have hid:Lev g lv id:=by
   rcases hq with ⟨rfl,rfl⟩ | ⟨hq0,m,rfl,hm⟩
   ·exact ⟨_,a1,rfl⟩
   ·exact ⟨_,a1,hq0,hm⟩
  rw [sub] at h;by_cases e:id=p
  ·rw [if_pos e] at h
   injection h with h;injection h with h1 h
   rw [← h1,← e]
   simpa using hid
  ·rw [if_neg e] at h
   cases hs:ks0.sub p (lv+1:Int) with
   | some y =>
    rw [hs] at h
    injection h with h
    subst h;exact lev_of ks0 id (lv+1) l d ks a2 (.inr ⟨h0 id (by simp [ids]),lv,rfl,hid⟩) (fun x hx=>h0 x (by simp [ids,hx])) (by simpa using hs)
   | none =>
    rw [hs] at h;exact lev_of r q lv l d ks a3 hq (fun x hx=>h0 x (by simp [ids,hx])) h
theorem par_ahead:∀ (f:Fo) (p lv q l:Int) (d:NodeD) (ks:Fo),f.ids.Nodup→f.sub p lv=some (l,d,ks) → ∃ A T q',f.flat lv=A++⟨p,d.at l⟩ :: T∧(∀ r∈A,r.id≠p)∧f.ent q p=some ⟨q',d,ks.roots⟩ ∧ ∀ a,(l=lv→a=q)→lastL (l-1) a A=q'
 | nil,_,_,_,_,_,_,_,h=>by simp [sub] at h
 | cons id d0 ks0 r,p,lv,q,l,d,ks,hn,h=>by
  simp only [ids,List.nodup_cons,List.nodup_append,List.mem_append,not_or] at hn;obtain ⟨⟨hk,hr⟩,nk,nr,hd⟩:=hn
  rw [sub] at h;by_cases e:id=p
  ·rw [if_pos e] at h
   injection h with h;injection h with h1 h;injection h with h2 h3
   subst h1;subst h2;subst h3;subst e;exact ⟨[],_,q,rfl,by simp,by rw [ent,if_pos rfl],fun a ha=>ha rfl⟩
  ·rw [if_neg e] at h
   cases hs:ks0.sub p (lv+1) with
   | some y =>
    rw [hs] at h
    injection h with h
    subst h;obtain ⟨A,T,q',h1,h2,h3,h4⟩:=par_ahead ks0 p (lv+1) id l d ks nk hs
    refine ⟨⟨id,d0.at lv⟩ :: A,T++r.flat lv,q',by rw [flat,h1];simp,?_,by rw [ent,if_neg (fun h=>e h.symm),h3],fun a ha=>?_⟩
    ·intro x hx
     rcases List.mem_cons.1 hx with rfl | hx
     ·exact e
     ·exact h2 x hx
    ·rw [lastL]
     refine h4 _ fun hl=>?_
     rw [if_pos];rw [zCm];omega
   | none =>
    rw [hs] at h;have hpk:=zCP ks0 p _ hs
    have hll:lv≤l:=by
     obtain ⟨_,_,_,_,_,h4,_⟩:=split_at r p lv nr l d ks h
     exact h4
    obtain ⟨A,T,q',h1,h2,h3,h4⟩:=par_ahead r p lv q l d ks nr h
    refine ⟨⟨id,d0.at lv⟩ :: (ks0.flat (lv+1)++A),T,q',by rw [flat,h1];simp,?_,by rw [ent,if_neg (fun h=>e h.symm),ent_not ks0 id p hpk];exact h3,fun a ha=>?_⟩
    ·intro x hx
     rcases List.mem_cons.1 hx with rfl | hx
     ·exact e
     rcases List.mem_append.1 hx with hx | hx
     ·intro hx'
      refine hpk ?_
      rw [← flat_ids ks0 (lv+1),← hx'];exact List.mem_map_of_mem hx
     ·exact h2 x hx
    ·rw [lastL,zGP]
     refine h4 _ fun hl=>?_
     rw [if_neg (by rw [zCm];omega),zEw _ _ _ (fun z hz=>by have:=flat_ge ks0 (lv+1) z hz;omega)]
     exact ha hl
theorem ahead_one:∀ (A A' T T':List RowD) (r r':RowD) (p:Int),(∀ x∈A,x.id≠p)→(∀ x∈A',x.id≠p)→r.id=p→r'.id=p→A++r :: T=A'++r' :: T'→A=A'∧r=r'∧T=T'
 | [],[],T,T',r,r',p,_,_,_,_,h=>by simpa using h
 | [],a :: A',T,T',r,r',p,_,h2,h3,_,h=>by
  simp at h
  exact absurd (h.1 ▸ h3) (h2 a (by simp))
 | a :: A,[],T,T',r,r',p,h1,_,_,h4,h=>by
  simp at h
  exact absurd (h.1 ▸ h4) (h1 a (by simp))
 | a :: A,a' :: A',T,T',r,r',p,h1,h2,h3,h4,h=>by
  simp only [List.cons_append,List.cons.injEq] at h;obtain ⟨q1,q2,q3⟩:=ahead_one A A' T T' r r' p (fun x hx=>h1 x (by simp [hx])) (fun x hx=>h2 x (by simp [hx])) h3 h4 h.2
  exact ⟨by rw [h.1,q1],q2,q3⟩
/-! ### A node gone -/
end Fo
end
section
def rootF:Fo→Int
 | .nil=>0
 | .cons id _ _ _=>id
structure InvF (f:Fo) (next:Int):Prop where
 nd:f.ids.Nodup
 rng:∀ x∈f.ids,1≤x∧x<next
 nx:1≤next∧next≤2147483647
 one:∀ id d ks r,f=.cons id d ks r→r=.nil∧d.kind=1
 leaf:f.Leaf
 ok:∀ r∈f.flat 0,r.x.level<40∧partsE r.x=0
 cnt:f.cnt≤1000
theorem InvF.new:InvF .nil 1:=⟨by simp [Fo.ids],by simp [Fo.ids],by omega,(fun _ _ _ _ h=>(by cases h)),trivial,by simp [Fo.flat],by simp [Fo.cnt]⟩
theorem zFl:∀ f:Fo,f.roots.length≤f.cnt
 | .nil=>Nat.le_refl _
 | .cons id d ks r=>by have:=zFl r;simp [Fo.roots,Fo.cnt];omega
structure Stand (f:Fo) (p lv:Int) (d:NodeD) (ks:Fo) (A B:List RowD):Prop where
 sub:f.sub p 0=some (lv,d,ks)
 flat:f.flat 0=A++⟨p,d.at lv⟩ :: (ks.flat (lv+1)++B)
 ahead:∀ r∈A,r.id≠p
 behind:∀ r∈B.head?,r.x.level≤lv
 lv0:0≤lv
 upd:∀ g,(f.upd p g).flat 0=A++⟨p,d.at lv⟩ :: ((g ks).flat (lv+1)++B)
 set:∀ h,(f.setD p h).flat 0=A++⟨p,(h d).at lv⟩ :: (ks.flat (lv+1)++B)
 del:(f.del p).flat 0=A++B
theorem zLX {f:Fo} {p:Int} (hn:f.ids.Nodup) (h:p∈f.ids):∃ lv d ks A B,Stand f p lv d ks A B:=by
 obtain ⟨⟨lv,d,ks⟩,hs⟩:=Fo.sub_of_mem f p 0 h
 obtain ⟨A,B,h1,h2,h3,h4,h5,h6,h7⟩:=Fo.split_at f p 0 hn lv d ks hs
 exact ⟨lv,d,ks,A,B,hs,h1,h2,h3,h4,h5,h6,h7⟩
section
variable {f:Fo} {p lv:Int} {d:NodeD} {ks:Fo} {A B:List RowD}
theorem Stand.high (_h:Stand f p lv d ks A B):∀ z∈ks.flat (lv+1),(⟨p,d.at lv⟩:RowD).x.level<z.x.level:=fun z hz=>by
 have:=Fo.flat_ge ks (lv+1) z hz
 have e:(⟨p,d.at lv⟩:RowD).x.level=lv:=rfl
 omega
theorem Stand.low (h:Stand f p lv d ks A B):∀ z∈B.head?,z.x.level≤(⟨p,d.at lv⟩:RowD).x.level:=h.behind
theorem Stand.lvl (h:Stand f p lv d ks A B):lvlL (f.flat 0) A.length=lv:=by rw [h.flat,zLg];rfl
theorem Stand.below (h:Stand f p lv d ks A B):belowL (f.flat 0) A.length=ks.flat (lv+1):=by rw [h.flat];exact below_at h.high h.low
theorem Stand.kids (h:Stand f p lv d ks A B):kidsL (f.flat 0) A.length=offs (A.length+1) ks:=by
 unfold kidsL;rw [h.lvl,h.below,zH0]
theorem Stand.end (h:Stand f p lv d ks A B):endL (f.flat 0) A.length=A.length+1+ks.cnt:=by
 rw [h.flat,zMc h.high h.low,Fo.flat_len]
theorem Stand.laid (h:Stand f p lv d ks A B) (pl:Nat) (hpl:pl≤ks.roots.length) (F:Fo):laidL (f.flat 0) (spotL (f.flat 0) A.length pl) (F.flat (lv+1))=(f.upd p (Fo.insAt pl F)).flat 0:=by
 obtain ⟨X,Y,h1,h2,h3,h4⟩:=Fo.insAt_flat pl F ks
 have hX:X.roots.length=pl:=by rw [h3];simp;omega
 have hspot:spotL (f.flat 0) A.length pl=A.length+1+X.cnt:=by
  unfold spotL;rw [h.kids,h.end];have:=zK7 X Y (A.length+1)
  rw [hX,← h1] at this;rw [this];cases Y with
  | nil=>rw [h1,Fo.app_nil]
  | cons _ _ _ _=>rfl
 rw [hspot,h.upd,h.flat,h2,Fo.flat_app,Fo.flat_app];have hk:ks.flat (lv+1)=X.flat (lv+1)++Y.flat (lv+1):=by rw [h1,Fo.flat_app]
 rw [hk];unfold laidL;have e1:A++⟨p,d.at lv⟩ :: (X.flat (lv+1)++Y.flat (lv+1)++B)=(A++⟨p,d.at lv⟩ :: X.flat (lv+1))++(Y.flat (lv+1)++B):=by simp
 have e2:(A++⟨p,d.at lv⟩ :: X.flat (lv+1)).length=A.length+1+X.cnt:=by simp [Fo.flat_len];omega
 rw [e1,List.take_left' e2,List.drop_left' e2];simp
theorem Stand.ent (h:Stand f p lv d ks A B) (hn:f.ids.Nodup):∃ q',f.ent 0 p=some ⟨q',d,ks.roots⟩∧parentL (f.flat 0) A.length=q':=by
 obtain ⟨A',T,q',h1,h2,h3,h4⟩:=Fo.par_ahead f p 0 0 lv d ks hn h.sub
 have hA:=(Fo.ahead_one A A' _ _ _ _ p h.ahead h2 rfl rfl (h.flat.symm.trans h1)).1
 refine ⟨q',h3,?_⟩
 unfold parentL;rw [h.lvl,h.flat,List.take_left,hA];exact h4 0 fun _=>rfl
theorem Stand.row (h:Stand f p lv d ks A B):(⟨p,d.at lv⟩:RowD)∈f.flat 0:=by rw [h.flat];simp
end
section
variable {f:Fo} {next:Int}
theorem InvF.n0 (h:InvF f next):∀ x∈f.ids,x≠0:=fun x hx=>by have:=h.rng x hx;omega
theorem InvF.q0 (h:InvF f next):(0:Int) ∉ f.ids:=fun hx=>h.n0 0 hx rfl
theorem InvF.wf (h:InvF f next):∀ id e,f.ent 0 id=some e→wfI id:=fun id e he=>by
 have:=h.rng id (Fo.ent_mem _ _ _ _ he)
 have:=h.nx
 exact ⟨by omega,by omega⟩
theorem InvF.stand (h:InvF f next) {p:Int} {e:Ent} (he:f.ent 0 p=some e):∃ lv ks A B,Stand f p lv e.d ks A B∧e.kids=ks.roots∧parentL (f.flat 0) A.length=e.par∧lv<40∧partsE (e.d.at lv)=0∧Lev (f.ent 0) lv.toNat p∧(e.d.kind=2→ks=.nil):=by
 obtain ⟨lv,d,ks,A,B,hs⟩:=zLX h.nd (Fo.ent_mem _ _ _ _ he)
 obtain ⟨q',h1,h2⟩:=hs.ent h.nd
 rw [he] at h1
 injection h1 with h1
 subst h1;have hr:=h.ok _ hs.row
 refine ⟨lv,ks,A,B,hs,rfl,h2,hr.1,hr.2,?_,?_⟩
 ·exact Fo.lev_of f 0 0 lv d ks (Fo.agr_ent f 0 h.nd) (.inl ⟨rfl,rfl⟩) h.n0 hs.sub
 ·exact ((Fo.sub_ent f p 0 0 lv d ks h.nd hs.sub).2.2.2.2.2.2 h.leaf).2
theorem InvF.attrs (h:InvF f next):∀ id e,f.ent 0 id=some e→e.d.attrs.length≤20:=fun id e he=>by
 obtain ⟨lv,ks,A,B,hs,_,_,_,hp,_⟩:=h.stand he
 exact zCb hp
theorem InvF.kidsN (h:InvF f next):∀ id e,f.ent 0 id=some e→e.kids.length≤1000:=fun id e he=>by
 obtain ⟨lv,ks,A,B,hs,hk,_⟩:=h.stand he
 have h1:=(Fo.sub_ent f id 0 0 lv e.d ks h.nd hs.sub).2.2.2.2.2.1
 have h2:=zFl ks
 have:=h.cnt
 rw [hk];omega
theorem Stand.first {p lv:Int} {d:NodeD} {ks:Fo} {A B:List RowD} (hs:Stand f p lv d ks A B):A.length=0 ↔ p=rootF f:=by
 have hf:=hs.flat
 cases f with
 | nil=>simp [Fo.flat] at hf
 | cons id d0 ks0 r =>
  rw [Fo.flat] at hf
  constructor
  ·intro h
   have hA:A=[]:=List.length_eq_zero_iff.1 h
   rw [hA,List.nil_append] at hf
   injection hf with hf _
   injection hf with hf _
   exact hf.symm
  ·intro h
   cases A with
   | nil=>rfl
   | cons a A =>
    rw [List.cons_append] at hf
    injection hf with hf _
    exact absurd (by rw [← hf];exact h.symm) (hs.ahead a (by simp))
end
end
section
theorem zL1 (next:Int) (m:Nat) (x:Int):x∈idsFrom next m ↔ next≤x∧x<next+(m:Int):=by
 unfold idsFrom;simp only [List.mem_map,List.mem_range]
 constructor
 ·rintro ⟨j,hj,rfl⟩;omega
 ·rintro ⟨h1,h2⟩
  exact ⟨(x-next).toNat,by omega,by omega⟩
theorem zJa (next:Int) (m:Nat):(idsFrom next m).Nodup:=by
 unfold idsFrom;exact List.Pairwise.map _ (fun a b hab h=>hab (by omega)) (List.nodup_range (n:=m))
theorem zKU (l:List ItemD) (is:List Int) (h:is.length=l.length):(l.zip is).map (·.1)=l:=by
 exact List.map_fst_zip (by omega)
theorem zMN (l:List ItemD) (is:List Int) (h:is.length=l.length):(l.zip is).map (·.2)=is:=by
 exact List.map_snd_zip (by omega)
theorem zIY (l:List ItemD) (next:Int):(namedL next l 0).map (·.x)=l∧(namedL next l 0).map (·.id)=idsFrom next l.length:=by
 unfold namedL;rw [List.map_map,List.map_map]
 constructor
 ·have:((fun r:RowD=>r.x) ∘ fun z:ItemD × Int=>(⟨z.2,{ z.1 with level:=z.1.level+0 }⟩:RowD))=fun z=>z.1:=by funext z;simp
  rw [this];exact zKU l _ (zAr _ _)
 ·have:((fun r:RowD=>r.id) ∘ fun z:ItemD × Int=>(⟨z.2,{ z.1 with level:=z.1.level+0 }⟩:RowD))=fun z=>z.2:=rfl
  rw [this];exact zMN l _ (zAr _ _)
theorem zIX (l:List ItemD) (next more:Int):namedL next l more=(namedL next l 0).map fun r=>(⟨r.id,{ r.x with level:=r.x.level-(0-more) }⟩:RowD):=by
 unfold namedL;rw [List.map_map]
 congr 1
 funext z
 simp only [Function.comp];rw [show z.1.level+0-(0-more)=z.1.level+more by omega]
theorem zHE (l:List ItemD) (next:Int) (hs:Steps l) (h0:∀ x∈l,0≤x.level) (hh:∀ x∈l.head?,x.level=0):∃ F:Fo,(∀ lv,F.flat lv=namedL next l lv)∧F.Leaf∧prs 0 F=l.zip (idsFrom next l.length)∧F.ids=idsFrom next l.length∧F.cnt=l.length∧(F.flat 0).map (·.x)=l:=by
 obtain ⟨n1,n2⟩:=zIY l next
 obtain ⟨F,f1,f2⟩:=zLv (namedL next l 0).length (namedL next l 0) 0 (Nat.le_refl _) (fun r hr=>h0 r.x (by rw [← n1];exact List.mem_map_of_mem hr)) (fun r hr=>hh r.x (by rw [← n1,List.head?_map];rw [Option.mem_def.1 hr];rfl)) (by rw [n1];exact hs)
 have hids:F.ids=idsFrom next l.length:=by rw [← Fo.flat_ids F 0,f1,n2]
 refine ⟨F,fun lv=>?_,f2,?_,hids,?_,by rw [f1,n1]⟩
 ·rw [zIX,← f1,Fo.flat_shift,show (0:Int)-(0-lv)=lv by omega]
 ·unfold prs
  rw [f1];unfold namedL;rw [List.map_map];have:((fun r:RowD=>(r.x,r.id)) ∘ fun z:ItemD × Int=>(⟨z.2,{ z.1 with level:=z.1.level+0 }⟩:RowD))=fun z=>z:=by funext z;simp
  rw [this,List.map_id']
 ·rw [← Fo.ids_len,hids,zAr]
theorem zJk {l:List ItemD} (hck:(checkL l).2=0) {next:Int} (hn:1≤next) (hm:next+(l.length:Int)≤2147483647) :
  ∃ F:Fo,InvF F (next+(l.length:Int))∧F.flat 0=namedL next l 0∧F.ids=idsFrom next l.length∧(F.flat 0).map (·.x)=l ∧ ∃ s2,growS (l.zip (idsFrom next l.length)) ⟨[0],0,fun _=>none,0,0⟩=some s2∧s2.g=F.ent 0∧s2.root=rootF F∧s2.n=F.cnt:=by
 obtain ⟨x,r,hl,h0,h1,hs,hr,hok,hlen⟩:=(zDe l).1 hck
 obtain ⟨F,f1,f2,f3,f4,f5,f6⟩:=zHE l next hs (fun z hz=>by
   rw [hl] at hz;rcases List.mem_cons.1 hz with rfl | hz
   ·omega
   ·have:=hr z hz;omega) (fun z hz=>by rw [hl] at hz;simp at hz;rw [← hz];exact h0)
 have hone:∀ id d ks rr,F=.cons id d ks rr→rr=.nil∧d.kind=1:=by
  intro id d ks rr hF;subst hF;rw [Fo.flat,List.map_cons,List.map_append,hl] at f6
  injection f6 with g1 g2
  refine ⟨?_,?_⟩
  ·cases rr with
   | nil=>rfl
   | cons i2 d2 k2 r2 =>
    exfalso
    have hz:d2.at 0∈r:=by rw [← g2,Fo.flat];simp
    have:=hr _ hz
    rw [zCm] at this;omega
  ·rw [← g1] at h1;exact h1
 have hnd:F.ids.Nodup:=by rw [f4];exact zJa _ _
 have hinv:InvF F (next+(l.length:Int)):=by
  refine ⟨hnd,fun x hx=>?_,by omega,hone,f2,fun z hz=>?_,by rw [f5];exact hlen⟩
  ·rw [f4,zL1] at hx;omega
  ·exact hok z.x (by rw [← f6];exact List.mem_map_of_mem hz)
 refine ⟨F,hinv,f1 0,f4,f6,?_⟩
 cases F with
 | nil =>
  have hl0:l=[]:=f6.symm
  rw [hl0] at hl;cases hl
 | cons id d ks rr =>
  obtain ⟨rfl,_⟩:=hone id d ks rr rfl
  obtain ⟨s2,q1,q2,q3,q4⟩:=zIS id d ks 0 0 hnd hinv.q0 0
  rw [f3] at q1;exact ⟨s2,q1,q2,q3,by simpa using q4⟩
section
variable {f:Fo} {next:Int} {p lv:Int} {d:NodeD} {ks:Fo} {A B:List RowD}
end
end
section
open Go.RowKit Go.Shelf
attribute [local go_sem] Oper.semAt_some
def maxLv:List (Int × Int)→Int
 | []=>0
 | x :: r=>max x.2 (maxLv r)
def moveE (g:Int→Option Ent) (root id parent at':Int) (xs:List (Int × Int)) (L:Nat):Int:=match g id,g parent with
 | some e,some p=>if id=root then 62 else if p.d.kind≠1 then 68 else if parent∈xs.map (·.1) then 61 else
  if at'<0∨(p.kids.length:Int)-(if e.par=parent then 1 else 0)<at' then 69 else if 40≤(L:Int)+1+maxLv xs then 65 else 0
 | _,_=>60
theorem zC4 {P:Program} {fn:Func} {p:Tmp} {ty:TypeId} (h:fn.results=#[.cell p ty]) (tmps:Array Value) (w:World) (q:Nat) (v:Value) (d:TypeDesc)
  (hp:tmps.getD p undef=.pointer (some ⟨q,0,none⟩)) (hc:w.cell? ⟨q,0,none⟩=some v) (hu:P.underlying ty=some d) (hd:(match d with | .struct _ | .array _ _=>true | _=>false)=false) :
  (results fn tmps).run P w=.ok v w:=by
 have hp':tmps[p]?.getD undef=.pointer (some ⟨q,0,none⟩):=by simpa using hp
 have hagg:(isAgg ty).run P w=.ok false w:=by
  unfold isAgg;rw [Sem.run_bind,run_underlying hu w];cases d <;> simp_all
 have hl:(load ⟨q,0,none⟩).run P w=.ok v w:=by simp [go_sem,hc]
 simp [results,h,hp',asAddr,Result.andThen,loadVar,hagg,hl]
section
variable {w:World} {t mb:Nat} {y:Lay} {g:Int→Option Ent} {root next:Int} {n:Nat}
end
end
section
theorem zFt:∀ (F:Fo) (lv:Int),visF lv F=(F.flat lv).map fun r=>(r.id,r.x.level)
 | .nil,_=>rfl
 | .cons id d ks r,lv=>by
  rw [visF,Fo.flat,List.map_cons,List.map_append,zFt ks,zFt r]
  rfl
theorem zGu (p:Int) (d:NodeD) (ks:Fo) (lv:Int):visT lv (p,d,ks)=((Fo.cons p d ks .nil).flat lv).map fun r=>(r.id,r.x.level):=by
 rw [← zFt];simp [visF,visT]
theorem zLa (p:Int) (d:NodeD) (ks:Fo) (lv:Int):(visT lv (p,d,ks)).map (·.1)=p :: ks.ids:=by
 rw [zGu,List.map_map];have:((fun x:Int × Int=>x.1) ∘ fun r:RowD=>(r.id,r.x.level))=fun r=>r.id:=rfl
 rw [this,Fo.flat_ids];simp [Fo.ids]
theorem zLb (p:Int) (d:NodeD) (ks:Fo) (lv:Int):(visT lv (p,d,ks)).length=1+ks.cnt:=by
 rw [zGu,List.length_map,Fo.flat_len];simp [Fo.cnt]
section
variable {f:Fo} {next:Int} {p lv:Int} {d:NodeD} {ks:Fo} {A B:List RowD}
end
end
section
open Go.RowKit Go.Shelf
def cmpN (a b:List UInt8):Int:=if Op.bytesLess a b=true then -1 else if a=b then 0 else 1
def FindAt (l:List AttrD) (name:List UInt8) (k:Nat):Prop :=
 k≤l.length∧(∀ (j:Nat) (a:AttrD),j+1=k→l[j]? = some a→cmpN a.name name<0) ∧ ∀ a:AttrD,l[k]? = some a→0≤cmpN a.name name
def foundB (l:List AttrD) (name:List UInt8) (k:Nat):Bool:=match l[k]? with
 | some a=>decide (a.name=name)
 | none=>false
section
variable {w:World} {t mb:Nat} {y:Lay} {g:Int→Option Ent} {root next:Int} {n:Nat}
end
end
section
open Go.RowKit Go.Lib
end
section
open Go.RowKit Go.Lib
end
section
open Go.RowKit Go.Shelf
def Ent.setAttrs (e:Ent) (l:List AttrD):Ent:={ e with d:={ e.d with attrs:=l } }
def delAttrG (g:Int→Option Ent) (id:Int) (name:List UInt8) (k:Nat):Int × (Int→Option Ent):=match g id with
 | none=>(60,g)
 | some e=>if e.d.kind≠1 then (68,g) else if foundB e.d.attrs name k=true then (0,fset g id (some (e.setAttrs (e.d.attrs.eraseIdx k)))) else (63,g)
def FindG (g:Int→Option Ent) (id:Int) (name:List UInt8) (k:Nat):Prop:=∀ e,g id=some e→e.d.kind=1→FindAt e.d.attrs name k
section
variable {w:World} {t mb:Nat} {y:Lay} {g:Int→Option Ent} {root next:Int} {n:Nat}
end
end
section
open Go.RowKit Go.Shelf
def setAttrG (g:Int→Option Ent) (id:Int) (name value:List UInt8) (k:Nat):Int × (Int→Option Ent):=match g id with
 | none=>(60,g)
 | some e=>if e.d.kind≠1 then (68,g) else if nameL name=false then (63,g) else if textE value≠0 then (textE value,g) else
  if foundB e.d.attrs name k=true then (0,fset g id (some (e.setAttrs (e.d.attrs.set k ⟨name,value⟩)))) else
  if 20≤e.d.attrs.length then (67,g) else (0,fset g id (some (e.setAttrs (e.d.attrs.take k++⟨name,value⟩ :: e.d.attrs.drop k))))
section
variable {w:World} {t mb:Nat} {y:Lay} {g:Int→Option Ent} {root next:Int} {n:Nat}
end
end
section
theorem zGA (x:List UInt8):Op.bytesLess x x=false:=by
 rw [bytesLess_eq];exact decide_eq_false (List.lt_irrefl x)
theorem zHh {x y z:List UInt8} (h:Op.bytesLess x y=true) (h':Op.bytesLess y z=true):Op.bytesLess x z=true:=by
 rw [bytesLess_eq] at *;exact decide_eq_true (List.lt_trans (of_decide_eq_true h) (of_decide_eq_true h'))
theorem zMa {x y:List UInt8} (h:Op.bytesLess x y=false) (h':Op.bytesLess y x=false):x=y:=by
 rw [bytesLess_eq] at *;have h1:=of_decide_eq_false h
 have h2:=of_decide_eq_false h'
 exact List.le_antisymm (List.not_lt.1 h2) (List.not_lt.1 h1)
theorem zKk {x y:List UInt8} (h:Op.bytesLess x y=true):Op.bytesLess y x=false:=by
 cases h':Op.bytesLess y x with
 | false=>rfl
 | true=>have:=zHh h h';rw [zGA] at this;cases this
theorem zMs {x y:List UInt8} (h:Op.bytesLess x y=true):x≠y:=by
 intro e;subst e;rw [zGA] at h;cases h
theorem zMZ {x:List UInt8} (h:x≠[]):Op.bytesLess [] x=true:=by
 cases x with
 | nil=>exact absurd rfl h
 | cons a x=>simp [Op.bytesLess]
theorem zL5 (a b:List UInt8):leB a b = !Op.bytesLess b a:=by
 unfold leB;cases h:Op.bytesLess a b with
 | true=>rw [zKk h];rfl
 | false =>
  cases h':Op.bytesLess b a with
  | true=>have:=zMs h';simp;exact fun e=>this e.symm
  | false=>rw [zMa h h'];simp
def RiseG (l:List AttrD):Prop:=l.Pairwise fun a b=>Op.bytesLess a.name b.name=true
theorem zCn:∀ (l:List AttrD) (last:List UInt8),attrNames last l=true ↔ RiseG l∧(∀ a∈l,nameL a.name=true) ∧ ∀ a∈l,Op.bytesLess last a.name=true
 | [],_=>by simp [attrNames,RiseG]
 | b :: l,last=>by
  unfold attrNames;rw [Bool.and_eq_true,Bool.and_eq_true,zCn l b.name,zL5];simp only [Bool.not_not];unfold RiseG;rw [List.pairwise_cons]
  constructor
  ·rintro ⟨⟨h1,h2⟩,h3,h4,h5⟩
   refine ⟨⟨h5,h3⟩,fun a ha=>?_,fun a ha=>?_⟩
   ·rcases List.mem_cons.1 ha with rfl | ha
    ·exact h1
    ·exact h4 a ha
   ·rcases List.mem_cons.1 ha with rfl | ha
    ·exact h2
    ·exact zHh h2 (h5 a ha)
  ·rintro ⟨⟨h1,h2⟩,h3,h4⟩
   exact ⟨⟨h3 b (by simp),h4 b (by simp)⟩,h2,fun a ha=>h3 a (by simp [ha]),h1⟩
theorem zK4 {x:List UInt8} (h:nameL x=true):x≠[]:=by
 intro e;subst e;revert h;decide
theorem zCQ (l:List AttrD):attrNames [] l=true ↔ RiseG l ∧ ∀ a∈l,nameL a.name=true:=by
 rw [zCn];exact ⟨fun h=>⟨h.1,h.2.1⟩,fun h=>⟨h.1,h.2,fun a ha=>zMZ (zK4 (h.2 a ha))⟩⟩
theorem zFE:∀ (l:List AttrD),valuesE l=0 ↔ ∀ a∈l,charsE a.value=0
 | []=>by simp [valuesE]
 | a :: r=>by
  unfold valuesE;by_cases h:charsE a.value=0
  ·rw [if_pos h,zFE r];simp [h]
  ·rw [if_neg h];simp [h]
theorem zIj {x:ItemD} (hk:x.kind=1):partsE x=0 ↔ x.text=[]∧nameL x.name=true∧RiseG x.attrs∧(∀ a∈x.attrs,nameL a.name=true)∧x.attrs.length≤20 ∧ ∀ a∈x.attrs,charsE a.value=0:=by
 unfold partsE;rw [if_neg (by omega)]
 by_cases ht:x.text=[]
 ·rw [if_neg (by simp [hk,ht])]
  unfold namesE;by_cases hn:nameL x.name && attrNames [] x.attrs
  ·rw [if_pos hn]
   simp only [Bool.and_eq_true,zCQ] at hn;by_cases h20:20<x.attrs.length
   ·rw [if_pos h20,if_neg (by decide)]
    exact ⟨fun h=>(by cases h),fun h=>by have:=h.2.2.2.2.1;omega⟩
   ·rw [if_neg h20,if_pos rfl,zFE]
    exact ⟨fun h=>⟨ht,hn.1,hn.2.1,hn.2.2,by omega,h⟩,fun h=>h.2.2.2.2.2⟩
  ·rw [if_neg hn,if_neg (by decide)]
   simp only [Bool.and_eq_true,zCQ] at hn;exact ⟨fun h=>(by cases h),fun h=>absurd ⟨h.2.1,h.2.2.1,h.2.2.2.1⟩ hn⟩
 ·rw [if_pos (.inr ht)]
  exact ⟨fun h=>(by cases h),fun h=>absurd h.1 ht⟩
theorem zIk {x:ItemD} (hk:x.kind=2):partsE x=0 ↔ x.name=[]∧x.attrs=[]∧charsE x.text=0:=by
 unfold partsE;by_cases h:x.name=[]∧x.attrs=[]
 ·rw [if_pos ⟨hk,h.1,h.2⟩]
  exact ⟨fun h'=>⟨h.1,h.2,h'⟩,fun h'=>h'.2.2⟩
 ·rw [if_neg (fun h'=>h h'.2),if_pos (.inl (by omega))]
  exact ⟨fun h'=>(by cases h'),fun h'=>absurd ⟨h'.1,h'.2.1⟩ h⟩
/-! ## One put in,one taken out -/
end
section
open Go.RowKit Go.Shelf
theorem zEu {w:World} {t mb:Nat} {y:Lay} {g:Int→Option Ent} {root next:Int} {n:Nat} (h:TreeAt w t mb y g root next n) {p:Int} {e:Ent} (he:g p=some e) (hl:e.kids.length≤1000000) (id:Int) :
  ∃ pa pn pc w2,(Builtin.append_ #[32,32] 32 #[y.kid p,.slice (some ⟨w.heap.size,0,none⟩) 1 1]).run Tryz.prog (w.alloc (.cells #[.int .i64 id] 3))=.ok (.slice pa pn pc) w2 ∧
   w2.heap[y.nb p]? = some (.cells (nodeC p e (y.att p) (y.kid p)) 97 (0,0)) ∧
   TreeAt (w2.setCell ⟨y.nb p,7,none⟩ (.slice pa pn pc)) t mb (layK y p (.slice pa pn pc)) (fset g p (some { e with kids:=e.kids++[id] })) root next n ∧
   Grows (Mine t mb y g) (Mine t mb (layK y p (.slice pa pn pc)) (fset g p (some { e with kids:=e.kids++[id] }))) w (w2.setCell ⟨y.nb p,7,none⟩ (.slice pa pn pc)):=by
 obtain ⟨pa,pn,pc,w2,hr,_,hrow,hg,hf⟩:=zAk (h.kid p e he) hl id
 obtain ⟨q0,q1,q2⟩:=h.set_kids he hrow hg hf
 exact ⟨pa,pn,pc,w2,hr,q0,q1,q2⟩
theorem zEv {w w1:World} {t mb:Nat} {y:Lay} {g:Int→Option Ent} {root next:Int} {n:Nat} (h:TreeAt w t mb y g root next n) {p:Int} {e:Ent} (he:g p=some e) (hl:e.kids.length≤1000000) (id:Int) (k:Nat) (hk:k≤e.kids.length)
  (hw1:w1=w.alloc (.cells #[.int .i64 id] 3)) :
  Calls Tryz.prog 51 #[y.kid p,.int .i64 k,.slice (some ⟨w.heap.size,0,none⟩) 1 1] w1 fun er w2=>∃ pa pn pc,er=.returned (.slice pa pn pc) ∧
   w2.heap[y.nb p]? = some (.cells (nodeC p e (y.att p) (y.kid p)) 97 (0,0)) ∧
   TreeAt (w2.setCell ⟨y.nb p,7,none⟩ (.slice pa pn pc)) t mb (layK y p (.slice pa pn pc)) (fset g p (some { e with kids:=e.kids.take k++id :: e.kids.drop k })) root next n ∧
   Grows (Mine t mb y g) (Mine t mb (layK y p (.slice pa pn pc)) (fset g p (some { e with kids:=e.kids.take k++id :: e.kids.drop k }))) w (w2.setCell ⟨y.nb p,7,none⟩ (.slice pa pn pc)):=by
 have hb:Below w.heap.size w w1:=by rw [hw1];exact (Below.refl _ w).alloc (Nat.le_refl _) _
 have hX:w1.heap[w.heap.size]? = some (.cells #[.int .i64 id] 3 (0,0)):=by rw [hw1];exact heap_alloc_new w _
 have h1:=h.below hb
 refine (zH9 (y.kid p) e.kids k id w.heap.size w1 (h1.kid p e he) hX (fun hh=>by have:=zAJ (h.kid p e he) hh;omega) hl hk).mono ?_
 rintro er w2 ⟨v',rfl,hr,hg,hf⟩;obtain ⟨q0,q1,q2⟩:=h1.set_kids he hr hg hf
 obtain ⟨pa,pc,rfl⟩:∃ pa pc,v'=.slice pa (e.kids.take k++id :: e.kids.drop k).length pc:=by
  obtain ⟨A,c,hv,_⟩:=zAR hr
  exact ⟨A,c,hv⟩
 exact ⟨pa,_,pc,rfl,q0,q1,(Grows.of_below hb).trans q2⟩
end
section
open Go.RowKit Go.Shelf
attribute [local go_sem] Oper.semAt_some
def StandI (M:Nat→Prop) (w:World) (B:Nat) (A:Option Addr) (l:List ItemD):Prop:=∀ wr,Turn M w wr→ItemsAt wr B A l
theorem StandI.now {M:Nat→Prop} {w:World} {B:Nat} {A:Option Addr} {l:List ItemD} (h:StandI M w B A l):ItemsAt w B A l:=h w (Turn.refl M w)
theorem StandI.of {M:Nat→Prop} {w:World} {B:Nat} {A:Option Addr} {l:List ItemD} (h:ItemsAt w B A l) (hB:∀ b,M b→B≤b) (hBw:B≤w.heap.size):StandI M w B A l:=fun _ ht =>
 h.keep fun p hp=>World.cell?_of_block (w:=w) (ht.block p.block (by omega) (fun hm=>by have:=hB _ hm;omega))
theorem StandI.grow {M M':Nat→Prop} {w w':World} {B:Nat} {A:Option Addr} {l:List ItemD} (h:StandI M w B A l) (hg:Grows M M' w w'):StandI M' w' B A l:=fun wr ht =>
 h wr ⟨ht.os.trans hg.1.os,ht.tape.trans hg.1.tape,ht.output.trans hg.1.output,Nat.le_trans hg.1.size ht.size,fun k hk hm=>(ht.block k (Nat.lt_of_lt_of_le hk hg.1.size) (fun hm'=>by
  rcases hg.2 k hm' with h' | h'
  ·exact hm h'
  ·omega)).trans (hg.1.block k hk hm)⟩
def GrowPost (ids:List Int) (t mb:Nat) (y:Lay) (g:Int→Option Ent) (w:World) (s2:GS) (next:Int) (er:Ending) (w':World):Prop:=∃ i0,ids[0]? = some i0∧er=.returned (.int .i64 i0)∧TP t mb y g w s2.g s2.root next s2.n w'
theorem zBu {w:World} {t mb:Nat} {y y':Lay} {g':Int→Option Ent} {root next:Int} {n:Nat} {p:Int} {e':Ent} {v:Value}
  (ht:TreeAt (w.setCell ⟨y.nb p,7,none⟩ v) t mb y' g' root next n) (hg:g' p=some e') (hnb:y'.nb p=y.nb p) (hw:wfI p) :
  w.cell? ⟨t,0,none⟩=some (.map (some mb))∧(Instr.lookup 93 (.map (some mb)) (.int .i64 p) false).run Tryz.prog w=.ok (.pointer (some ⟨y.nb p,0,none⟩)) w:=by
 have h1:=(ht.t_not.2 p e' hg).1
 have h2:=(ht.mb_not p e' hg).1
 rw [hnb] at h1 h2;refine ⟨?_,?_⟩
 ·have:=ht.tree
  rw [Below.heap_setCell _ _ _ _ h1] at this;exact zAA this 0 _ rfl
 ·have hm:=ht.map.keep (w':=w) (Below.heap_setCell _ _ _ _ h2).symm
  have:=hm.look hw
  rw [hg] at this
  simpa [ptrOf,hnb] using this
section
variable {w:World} {t mb:Nat} {y:Lay} {g:Int→Option Ent} {root next:Int} {n:Nat}
theorem zKt (h:TreeAt w t mb y g root next n) (parent:Int) (pl:Nat) (l:List ItemD) (ids:List Int) (A:Option Addr) (c B:Nat) (hi:StandI (Mine t mb y g) w B A l) (hBw:B≤w.heap.size) (vids:Value) (hids:intRow w vids ids) (hv:∀ b,vids.ownBlock=some b → ¬ Mine t mb y g b)
  (hal:∀ (k:Nat) (x:ItemD),l[k]? = some x→x.attrs.length≤1000000000) (hwi:∀ i∈ids,wfI i) (hwp:wfI parent) (hn:n≤1000000) (hkl:∀ id e,g id=some e→e.kids.length≤100000) (hl:l.length≤100000) (hll:ids.length=l.length) (hl0:0<l.length) (hpl:pl≤100000) (s2:GS) (hs:growS (l.zip ids) ⟨[parent],pl,g,root,n⟩=some s2) :
  Calls Tryz.prog 44 #[.pointer (some ⟨t,0,none⟩),.int .i64 parent,.int .i64 pl,.slice A l.length c,vids] w (GrowPost ids t mb y g w s2 next):=by
 obtain ⟨W1,hW1⟩:∃ W1,Hid (W1=w.alloc (.cells #[.int .i64 parent] 3)):=⟨_,rfl⟩
 have hb1:Below w.heap.size w W1:=by rw [hW1.out];exact (Below.refl _ w).alloc (Nat.le_refl _) _
 have hX1:W1.heap[w.heap.size]? = some (.cells #[.int .i64 parent] 3 (0,0)):=by rw [hW1.out];exact heap_alloc_new w _
 have HH:=Lib.hid h
 have HI:=Lib.hid hi
 have HIDS:=Lib.hid hids
 have HS:=Lib.hid hs
 have HV:=Lib.hid hv
 have HX1:=Lib.hid hX1
 have HAL:=Lib.hid hal
 have hGB0:GB n pl 0 ⟨[parent],pl,g,root,n⟩:=⟨fun z hz=>by rw [List.mem_singleton.1 hz];exact hwp,by simp,by simp,fun id e he=>by have:=hkl id e he;omega⟩
 have hzw:∀ z∈l.zip ids,wfI z.2:=fun z hz=>hwi z.2 (List.of_mem_zip hz).2
 have HGB:Hid (∀ (j:Nat) (s:GS),j≤(l.zip ids).length→growS ((l.zip ids).take j) ⟨[parent],pl,g,root,n⟩=some s→GB n pl j s):=fun j s hj h=>by
  have:=zHl _ _ s n pl 0 hGB0 (fun z hz=>hzw z (List.mem_of_mem_take hz)) h
  rw [List.length_take,Nat.min_eq_left hj,Nat.zero_add] at this;exact this
 have HWI:=Lib.hid hwi
 have HB1:=Lib.hid hb1
 obtain ⟨m,hm⟩:∃ m,Hid (l.length=m):=⟨_,rfl⟩
 rw [hm.out] at hl hll hl0;rw [hm.out];obtain ⟨VA,vc,hvids,_⟩:=zAR hids
 rw [hll] at hvids;have HVI:=Lib.hid hvids
 rw [hvids];clear h hi hids hs hv hX1 hb1 hvids hal hwi hGB0 hzw hkl
 go_enter Tryz.func44,Tryz.ntmps44
 go_wp2_with fail;rw [← hW1.out]
 go_loopw [2,11,20] (fun at' op k wr=>∃ (j:Nat) (s0:GS) (b cc:Nat) (y0:Lay),k=.int .i64 (j:Int)∧j≤m∧at'=.int .i64 (s0.pl:Int)∧op=.slice (some ⟨b,0,none⟩) s0.op.length cc∧s0.op.length≤j+1∧Hid (growS ((l.zip ids).take j) ⟨[parent],pl,g,root,n⟩=some s0) ∧
  Hid (intRow wr (.slice (some ⟨b,0,none⟩) s0.op.length cc) s0.op)∧Hid (w.heap.size≤b)∧Hid (¬ Mine t mb y0 s0.g b)∧Hid (TreeAt wr t mb y0 s0.g s0.root next s0.n)∧Hid (Grows (Mine t mb y g) (Mine t mb y0 s0.g) w wr)) (fun _ _ k _=>m-(intOf k).toNat)
 case atStart =>
  refine ⟨0,⟨[parent],pl,g,root,n⟩,w.heap.size,1,y,rfl,Nat.zero_le _,rfl,rfl,Nat.le_refl _,rfl,?_,Nat.le_refl _,fun hm'=>?_,HH.out.below HB1.out,Grows.of_below HB1.out⟩
  ·exact zE9 (xs:=[Value.int .i64 parent]) HX1.out (Nat.le_refl _) (by decide) rfl rfl
  ·have:=HH.out.lt hm';omega
 case round =>
  obtain ⟨j,s0,b,cc,y0,rfl,hj,rfl,rfl,hopl,hgs,hrow,hbw,hbm,ht,hgr⟩:=hrel
  have hz:=hgr.out.1.size
  have hIr:=HI.out wr hgr.out.1
  have hidr:intRow wr vids ids:=zAC HIDS.out fun q hq=>hgr.out.1.block q (zAJ HIDS.out hq) (HV.out q hq)
  have j0:(0:Int)≤(j:Int):=by omega
  by_cases hjm:j<m
  ·have hjm':(j:Int)<(m:Int):=by omega
   obtain ⟨x,hx⟩:∃ x,l[j]? = some x:=⟨_,List.getElem?_eq_getElem (by rw [hm.out];exact hjm)⟩
   obtain ⟨i,hi⟩:∃ i,ids[j]? = some i:=⟨_,List.getElem?_eq_getElem (by rw [hll];exact hjm)⟩
   have hzip:(l.zip ids)[j]? = some (x,i):=by rw [List.getElem?_zip_eq_some];exact ⟨hx,hi⟩
   obtain ⟨s0',s1,e1,e2,e3⟩:=zIT hzip HS.out
   have e0:s0'=s0:=by rw [hgs.out] at e1;injection e1 with e1;exact e1.symm
   subst e0;obtain ⟨ad,hA,hadB,hcells⟩:=hIr (by rw [hm.out];omega)
   subst hA;obtain ⟨A',c',hat,hac,k0,k1,k2,k3,k4⟩:=hcells j x hx
   have hgb:=HGB.out j s0' (by rw [List.length_zip,hm.out];omega) hgs.out
   have HGJ:=Lib.hid hgb
   have hwj:wfI i:=HWI.out i (List.mem_of_getElem? hi)
   have HWJ:=Lib.hid hwj
   have HALX:=Lib.hid (HAL.out j x hx)
   have HE2:=Lib.hid e2
   have HE3:=Lib.hid e3
   have HAT:=Lib.hid hat
   rw [HVI.out] at hidr;have hid2:wr.ownsRow 0 3 1 (.slice VA m vc) m (ids.map (Value.int .i64)):=by
    have:=hidr
    unfold intRow at this;rw [hll] at this;exact this
   obtain ⟨_,vc',hvv,_,_,hV0,hV1⟩:=zAR hid2
   injection hvv with hvv _ hvc
   subst hvc;cases VA with
   | none=>rw [← hvv] at hV0;have:=(hV0 rfl).1;omega
   | some va =>
    obtain ⟨vb,rfl,_⟩:=hV1 va hvv.symm
    have cid:=zAd hid2 j (.int .i64 i) (by rw [List.getElem?_map,hi];rfl)
    clear hgb hwj hid2 hidr hV0 hV1 hvv hcells hIr e1 e2 e3 hgs hat hz;obtain ⟨lv,p,hlv,hp,hno⟩:∃ (lv:Nat) (p:Int),x.level=(lv:Int)∧s0'.op[lv]? = some p∧s0'.g i=none:=by
     have h2:=HE2.out
     unfold growStep at h2
     split at h2
     ·cases h2
     ·rename_i hneg
      split at h2
      ·cases h2
      ·rename_i p hp
       split at h2
       ·cases h2
       ·rename_i hno
        exact ⟨x.level.toNat,p,by omega,hp,by simpa using hno⟩
    have hlvl:=(List.getElem?_eq_some_iff.1 hp).1
    rw [hlv] at k0;unfold strV at k2 k3;obtain ⟨Wb,hWb⟩:∃ Wb,Hid (Wb=wr.alloc (.cells #[.int .i64 (lv:Int),.int .i64 x.kind,.string ⟨x.name.toArray⟩,.string ⟨x.text.toArray⟩,.slice A' x.attrs.length c'] 75)):=⟨_,rfl⟩
    have hbb:Below wr.heap.size wr Wb:=by rw [hWb.out];exact (Below.refl _ wr).alloc (Nat.le_refl _) _
    have hxb:Wb.heap[wr.heap.size]? = some (.cells #[.int .i64 (lv:Int),.int .i64 x.kind,.string ⟨x.name.toArray⟩,.string ⟨x.text.toArray⟩,.slice A' x.attrs.length c'] 75 (0,0)):=by rw [hWb.out];exact heap_alloc_new wr _
    have cidb:Wb.cell? ⟨vb,j,none⟩=some (.int .i64 i):=(hbb.cell (by exact World.block_lt_of_cell? _ _ cid)).trans cid
    have d0:Wb.cell? ⟨wr.heap.size,0,none⟩=some (.int .i64 (lv:Int)):=zAA hxb 0 _ rfl
    rw [hWb.out] at cidb d0;have HBB2:=Lib.hid hbb
    have HXB:=Lib.hid hxb
    have lv0:(0:Int)≤(lv:Int):=by omega
    have lv1:(lv:Int)≤100000:=by omega
    obtain ⟨_,cc2,hcv,hcc,_,_,_⟩:=zAR hrow.out
    injection hcv with hc1 hc2 hc3
    subst hc3;clear hc1 hc2;have hcc':((s0'.op.length:Nat):Int)≤(cc:Int):=by omega
    have hlv2:(lv:Int)+1≤(cc:Int):=by omega
    have hrowb:intRow Wb (.slice (some ⟨b,0,none⟩) s0'.op.length cc) s0'.op:=zAC hrow.out fun q hq=>hbb.block q (zAJ hrow.out hq)
    obtain ⟨q,pc,w2,hr2,hq2,hrow2,hb2⟩:=zEe hrowb (lv+1) (by omega) (by omega) i
    have HROW2:=Lib.hid hrow2
    have HB2:=Lib.hid hb2
    have HQ2:=Lib.hid hq2
    have hx2:w2.heap[wr.heap.size]? = some (.cells #[.int .i64 (lv:Int),.int .i64 x.kind,.string ⟨x.name.toArray⟩,.string ⟨x.text.toArray⟩,.slice A' x.attrs.length c'] 75 (0,0)):=(hb2.block _ (Array.getElem?_eq_some_iff.1 hxb).1).trans hxb
    have f0:w2.cell? ⟨wr.heap.size,0,none⟩=some (.int .i64 (lv:Int)):=zAA hx2 0 _ rfl
    have hltk:(s0'.op.take (lv+1)++[i]).length=lv+2:=by simp;omega
    have hrow3:w2.ownsRow 0 3 1 (.slice (some ⟨q,0,none⟩) (lv+1+1) pc) (lv+1+1) ((s0'.op.take (lv+1)++[i]).map (Value.int .i64)):=by
     have:=hrow2
     unfold intRow at this;rw [hltk] at this;exact this
    have cp:=zAd hrow3 lv (.int .i64 p) (by rw [List.getElem?_map,List.getElem?_append_left (by simp;omega),List.getElem?_take,if_pos (by omega),hp];rfl)
    have HX2:=Lib.hid hx2
    clear hx2 hltk hrow3;rw [hWb.out] at hr2;have hzb:Wb.heap.size=wr.heap.size+1:=by rw [hWb.out];simp
    have HLV:=Lib.hid hlv
    clear hbb hxb hlv hrowb hrow2 hb2 hq2 hcc
    go_wp2_with (at_builtin;refine zAK _ rfl _ _ 32 rfl (.slice (some ⟨b,0,none⟩) (lv+1) (lv+1)) (.slice (some ⟨(wr.alloc (.cells #[.int .i64 (lv:Int),.int .i64 x.kind,.string ⟨x.name.toArray⟩,.string ⟨x.text.toArray⟩,.slice A' x.attrs.length c'] 75)).heap.size,0,none⟩) 1 1) (by simp [Act.eval]) (by simp [Act.eval]) hr2 ?_)
    have ht2:TreeAt w2 t mb y0 s0'.g s0'.root next s0'.n:=ht.out.below (HBB2.out.trans (HB2.out.mono (by omega)))
    have HT2:=Lib.hid ht2
    have HTD:Hid (TreeAt w2.drew t mb y0 s0'.g s0'.root next s0'.n):=HT2.out.keep fun _ _=>rfl
    have hkS:∀ V:World,V.cell? ⟨t,0,none⟩=some (.map (some mb))→V.heap[wr.heap.size]? = some (.cells #[.int .i64 (lv:Int),.int .i64 x.kind,.string ⟨x.name.toArray⟩,.string ⟨x.text.toArray⟩,.slice A' x.attrs.length c'] 75 (0,0)) →
      V.cell? ⟨t,0,none⟩=some (.map (some mb))∧V.cell? ⟨wr.heap.size,1,none⟩=some (.int .i64 x.kind)∧V.cell? ⟨wr.heap.size,2,none⟩=some (.string ⟨x.name.toArray⟩)∧V.cell? ⟨wr.heap.size,3,none⟩=some (.string ⟨x.text.toArray⟩)∧V.cell? ⟨wr.heap.size,4,none⟩=some (.slice A' x.attrs.length c'):=fun V h hx =>
     ⟨h,zAA hx 1 _ rfl,zAA hx 2 _ rfl,zAA hx 3 _ rfl,zAA hx 4 _ rfl⟩
    have HKS:=Lib.hid hkS
    clear hkS ht2;refine wp_region_held_drew (S:=fun V=>V.cell? ⟨t,0,none⟩=some (.map (some mb))∧V.cell? ⟨wr.heap.size,1,none⟩=some (.int .i64 x.kind)∧V.cell? ⟨wr.heap.size,2,none⟩=some (.string ⟨x.name.toArray⟩)∧V.cell? ⟨wr.heap.size,3,none⟩=some (.string ⟨x.text.toArray⟩)∧V.cell? ⟨wr.heap.size,4,none⟩=some (.slice A' x.attrs.length c')) (by kernel_rfl) (HKS.out _ HTD.out.c0 HX2.out) (fun hHeld=>?_)
    refine tkv 0 (h:=tkv 1 (h:=tkv 2 (h:=tkv 3 (h:=tkv 4 (h:=tkv 5 (h:=?_))))))
    refine tkv 6 (h:=tkv 7 (h:=tkv 8 (h:=tkv 9 (h:=tkv 10 (h:=tkv 11 (h:=?_))))))
    refine tkv 12 (h:=tkv 13 (h:=tkv 14 (h:=?_)))
    refine rdy 15 (fun K hK=>?_)
    go_simp
    have hzr:=hgr.out.1.size
    have hat2:AttrsAt w2.drew w2.drew.heap.size A' x.attrs:=(HAT.out.keep (w':=w2.drew) (fun q hq=>World.cell?_of_block (w:=wr) ((HB2.out.block _ (by omega)).trans (HBB2.out.block _ (by omega))))).more (by have h1:=HBB2.out.size;have h2:=HB2.out.size;show B≤w2.heap.size;omega)
    refine (zFv x.attrs A' c' w2.drew hat2 HALX.out).mono ?_
    clear hat2 hzr;rintro e w5 ⟨A5,c5,rfl,hown5,hb5⟩;obtain ⟨w7,hr7,ht7,hg7⟩:=zJq HTD.out HWJ.out hno (by have:=HGJ.out.2.1;unfold maxLen;omega) p x hown5 hb5
    have ht5:TreeAt w5 t mb y0 s0'.g s0'.root next s0'.n:=HTD.out.below hb5
    have hx5:w5.heap[wr.heap.size]? = some (.cells #[.int .i64 (lv:Int),.int .i64 x.kind,.string ⟨x.name.toArray⟩,.string ⟨x.text.toArray⟩,.slice A' x.attrs.length c'] 75 (0,0)):=(hb5.block _ (by show _<w2.heap.size;have:=(Array.getElem?_eq_some_iff.1 HX2.out).1;omega)).trans HX2.out
    have HT5:=Lib.hid ht5
    have HX5:=Lib.hid hx5
    have HT7:=Lib.hid ht7
    have HG7:=Lib.hid hg7
    have HOWN5:=Lib.hid hown5
    have HB5:=Lib.hid hb5
    have HR7:=Lib.hid hr7
    clear ht5 hx5 ht7 hg7 hown5 hb5 hr7
    go_wp2_with fail;refine hK.out _ _ (HKS.out _ HT5.out.c0 HX5.out) (fun hHeld=>?_)
    clear hK K
    try go_frame
    refine tkv 16 (h:=tkv 17 (h:=?_))
    refine rdy 18 (fun K hK=>?_)
    go_simp
    have HXA:Hid ((w5.alloc (.cells (nodeC i (Ent.new p x) (.slice A5 x.attrs.length c5) (.slice none 0 0)) 97)).heap[wr.heap.size]? = some (.cells #[.int .i64 (lv:Int),.int .i64 x.kind,.string ⟨x.name.toArray⟩,.string ⟨x.text.toArray⟩,.slice A' x.attrs.length c'] 75 (0,0))):=(Below.heap_alloc w5 _ _ (Array.getElem?_eq_some_iff.1 HX5.out).1).trans HX5.out
    have HTA:Hid (TreeAt (w5.alloc (.cells (nodeC i (Ent.new p x) (.slice A5 x.attrs.length c5) (.slice none 0 0)) 97)) t mb y0 s0'.g s0'.root next s0'.n):=HT5.out.below ((Below.refl _ w5).alloc (Nat.le_refl _) _)
    have hr7:=HR7.out
    unfold nodeC Ent.new ItemD.node strV at hr7;simp only at hr7
    refine hK.out _ _ (HKS.out _ HTA.out.c0 HXA.out) (fun hHeld=>?_)
    clear hK K
    try go_frame
    refine rdy 19 (fun K hK=>?_)
    go_simp
    have hx7:w7.heap[wr.heap.size]? = some (.cells #[.int .i64 (lv:Int),.int .i64 x.kind,.string ⟨x.name.toArray⟩,.string ⟨x.text.toArray⟩,.slice A' x.attrs.length c'] 75 (0,0)):=(HG7.out.1.block _ (by have:=(Array.getElem?_eq_some_iff.1 HX2.out).1;exact this) (fun hm'=>by have:=ht.out.lt hm';omega)).trans HX2.out
    have HX7:=Lib.hid hx7
    clear hx7 hr7;refine hK.out _ _ (HKS.out _ HT7.out.c0 HX7.out) (fun hHeld=>?_)
    clear hK K
    try go_frame
    refine wpAnyH_done (by kernel_rfl) ?_ _
    clear hHeld;have d7:=zAA HX7.out 0 _ rfl
    obtain ⟨y7,hy7⟩:∃ y7,Hid (layN y0 i w5.heap.size (.slice A5 x.attrs.length c5)=y7):=⟨_,rfl⟩
    rw [hy7.out] at HT7 HG7;have HROW7:Hid (intRow w7 (.slice (some ⟨q,0,none⟩) (lv+1+1) pc) (s0'.op.take (lv+1)++[i])):=zAC HROW2.out fun b2 hb2=>(HG7.out.1.block b2 (zAJ HROW2.out hb2) (fun hm'=>by have h1:=ht.out.lt hm';have h3:=HQ2.out;have h2:q=b2:=(by simpa [Value.ownBlock] using hb2);omega))
    have HP:=Lib.hid hp
    have hqn:¬ Mine t mb y7 (fset s0'.g i (some (Ent.new p x))) q∧q<w7.heap.size∧w.heap.size≤q:=by
     have h3:=HQ2.out
     have h4:=(zAJ HROW2.out (b:=q) rfl:q<w2.heap.size)
     have h5:w2.heap.size≤w7.heap.size:=HG7.out.1.size
     have h6:=hgr.out.1.size
     refine ⟨fun hm'=>?_,by omega,by omega⟩
     rcases HG7.out.2 _ hm' with h | h
     ·have:=ht.out.lt h;omega
     ·have:w2.heap.size≤q:=h
      omega
    have hend:∀ (W:World) (y1:Lay),TreeAt W t mb y1 s1.g s1.root next s1.n→Grows (Mine t mb y7 (fset s0'.g i (some (Ent.new p x)))) (Mine t mb y1 s1.g) w7 W→s1.op=s0'.op.take (lv+1)++[i] →
      Hid (intRow W (.slice (some ⟨q,0,none⟩) s1.op.length pc) s1.op)∧Hid (w.heap.size≤q)∧Hid (¬ Mine t mb y1 s1.g q)∧Hid (TreeAt W t mb y1 s1.g s1.root next s1.n)∧Hid (Grows (Mine t mb y g) (Mine t mb y1 s1.g) w W):=by
     intro W y1 q1 q2 q3;have hlen:(s0'.op.take (lv+1)++[i]).length=lv+1+1:=by simp;omega
     refine ⟨?_,hqn.2.2,fun hm'=>?_,q1,?_⟩
     ·show intRow W _ s1.op
      rw [q3,hlen];exact zAC HROW7.out fun b2 hb2=>by
       have h2:q=b2:=(by simpa [Value.ownBlock] using hb2)
       rw [← h2];exact q2.1.block q hqn.2.1 hqn.1
     ·rcases q2.2 _ hm' with h | h
      ·exact hqn.1 h
      ·omega
     ·refine Grows.trans hgr.out ((Grows.of_below (HBB2.out.trans ((HB2.out.mono (by omega)).drew))).trans (HG7.out.trans q2))
    have HEND:=Lib.hid hend
    clear hend hqn;clear hp hno f0 cp d0 cid cidb d7;by_cases hp0:p=0
    ·subst hp0
     have hs1:=zFU HLV.out HP.out HE2.out
     have HS1:=Lib.hid hs1
     have f1:=HT7.out.c1
     have f2:=zAV HT7.out.tree 1
     have ht8:=HT7.out.set_root i
     have HT8:=Lib.hid ht8
     clear hs1 ht8
     go_wp2_with fail
     go_roundw
     case rel =>
      obtain ⟨z1,z2,z3,z4,z5⟩:=HEND.out _ y7 (by rw [HS1.out];exact HT8.out) (by rw [HS1.out];exact ⟨(Turn.refl _ _).setCell (.inl (.inl rfl)) _,fun b h=>.inl h⟩) (by rw [HS1.out])
      exact ⟨j+1,s1,q,pc,y7,by go_num,by omega,by rw [HS1.out],by rw [HS1.out];simp;omega,by rw [HS1.out];simp;omega,HE3,z1,z2,z3,z4,z5⟩
     case measure=>simp [intOf];omega
    ·have hb0:(p == 0)=false:=by simpa using hp0
     have hwfp:wfI p:=HGJ.out.1 p (List.mem_of_getElem? HP.out)
     have HWP:=Lib.hid hwfp
     have d7:=zAA HX7.out 0 _ rfl
     obtain ⟨g7,hg7⟩:∃ g7,Hid (fset s0'.g i (some (Ent.new p x))=g7):=⟨_,rfl⟩
     rw [hg7.out] at HT7 HG7 HEND;have hkS7:∀ (V:World) (e:Ent),g7 p=some e→TreeAt V t mb y7 g7 s0'.root next (s0'.n+1)→V.cell? ⟨t,0,none⟩=some (.map (some mb))∧(Instr.lookup 93 (.map (some mb)) (.int .i64 p) false).run Tryz.prog V=.ok (.pointer (some ⟨y7.nb p,0,none⟩)) V:=fun V e he h=>⟨h.c0,(h.look_yes he HWP.out).2⟩
     have HKS7:=Lib.hid hkS7
     have HTD7:Hid (TreeAt w7.drew t mb y7 g7 s0'.root next (s0'.n+1)):=HT7.out.keep fun _ _=>rfl
     clear hkS7 hwfp;by_cases hl0:lv=0
     ·have hl1:((lv:Int) == 0)=true:=by rw [hl0];rfl
      obtain ⟨e,he,hpe,hs1⟩:=zEa HLV.out hl0 HP.out hp0 HE2.out
      have hgb1:=HGJ.out.step HWJ.out HE2.out
      rw [hg7.out] at he hs1;have hkl1:e.kids.length≤1000000:=by
       have:=hgb1.2.2.2 p { e with kids:=e.kids.take s0'.pl++i :: e.kids.drop s0'.pl } (by rw [hs1];exact zAN _ _ _)
       simp at this;omega
      have HE:=Lib.hid he
      have HS1:=Lib.hid hs1
      have HPE:=Lib.hid hpe
      have HKL1:=Lib.hid hkl1
      have hpl0:(0:Int)≤(s0'.pl:Int):=by omega
      have hpl1:(s0'.pl:Int)≤300000:=by have:=HGJ.out.2.2.1;omega
      have HL0:=Lib.hid hl0
      clear he hs1 hpe hkl1 hgb1 hl0
      go_wp2_with fail;refine wp_region_held_drew (S:=fun V=>V.cell? ⟨t,0,none⟩=some (.map (some mb))∧(Instr.lookup 93 (.map (some mb)) (.int .i64 p) false).run Tryz.prog V=.ok (.pointer (some ⟨y7.nb p,0,none⟩)) V) (by kernel_rfl) (HKS7.out _ e HE.out HTD7.out) (fun hHeld=>?_)
      have HTB:Hid (TreeAt (w7.drew.alloc (.cells #[.int .i64 i] 3)) t mb y7 g7 s0'.root next (s0'.n+1)):=HTD7.out.below ((Below.refl _ _).alloc (Nat.le_refl _) _)
      have n7:=HT7.out.n7 HE.out
      have n7b:(w7.alloc (.cells #[.int .i64 i] 3)).cell? ⟨y7.nb p,7,none⟩=some (y7.kid p):=(World.cell?_alloc_lt _ _ _ (Array.getElem?_eq_some_iff.1 (HT7.out.node p e HE.out)).1).trans n7
      refine tkv 0 (h:=tkv 1 (h:=tkv 2 (h:=tkv 3 (h:=tkv 4 (h:=tkv 5 (h:=?_))))))
      refine tkv 6 (h:=tkv 7 (h:=tkv 8 (h:=tkv 9 (h:=tkv 10 (h:=tkv 11 (h:=?_))))))
      refine tkv 12 (h:=tkv 13 (h:=?_))
      refine tkv 15 (h:=tkv 16 (h:=?_))
      refine wpAnyH_ready (rs:=[14,17]) (by kernel_rfl) (by simp) ?_
      refine AllReadyH.cons (o:=⟨_,_,_,_,_,_⟩) rfl (fun K hK=>?_) (AllReadyH.cons (o:=⟨_,_,_,_,_,_⟩) rfl (fun K hK=>?_) AllReadyH.nil)
      ·go_simp
       refine hK.out _ _ (HKS7.out _ e HE.out HTD7.out) (fun hHeld=>?_)
       clear hK K
       try go_frame
       refine rdy 17 (fun K hK=>?_)
       go_simp
       refine hK.out _ _ (HKS7.out _ e HE.out HTB.out) (fun hHeld=>?_)
       clear hK K
       try go_frame
       clear n7 n7b;refine rdy 18 (fun K hK=>?_)
       go_simp
       refine (zEv HTD7.out HE.out HKL1.out i s0'.pl HPE.out rfl).mono ?_
       rintro er w9 ⟨pa,pn,pk,rfl,k1,k2,k3⟩;have e7:=zAA k1 7 _ rfl
       have f7:=zAV k1 7
       have HK2:=Lib.hid k2
       have HK3:=Lib.hid k3
       clear k1 k2 k3
       go_wp2_with fail;refine hK.out _ _ (zBu HK2.out (zAN _ _ _) rfl HWP.out) (fun hHeld=>?_)
       clear hK K
       try go_frame
       refine tkv 19 (h:=tkv 20 (h:=?_))
       refine rdy 21 (fun K hK=>?_)
       go_simp
       refine hK.out _ _ (⟨HK2.out.c0,(HK2.out.look_yes (zAN _ _ _) HWP.out).2⟩) (fun hHeld=>?_)
       clear hK K
       try go_frame
       refine wpAnyH_done (by kernel_rfl) ?_ _
       clear hHeld e7 f7
       go_wp2_with fail
       go_roundw
       case rel =>
        obtain ⟨z1,z2,z3,z4,z5⟩:=HEND.out _ (layK y7 p (.slice pa pn pk)) (by rw [HS1.out];exact HK2.out) (by rw [HS1.out];exact Grows.trans (Grows.of_below (Below.refl _ _).drew) HK3.out) (by rw [HS1.out])
        exact ⟨j+1,s1,q,pc,_,by go_num,by omega,by rw [HS1.out];go_num,by rw [HS1.out];simp;omega,by rw [HS1.out];simp;omega,HE3,z1,z2,z3,z4,z5⟩
       case measure=>simp [intOf];omega
      ·go_simp
       refine hK.out _ _ (HKS7.out _ e HE.out HTB.out) (fun hHeld=>?_)
       clear hK K
       try go_frame
       refine rdy 14 (fun K hK=>?_)
       go_simp
       refine hK.out _ _ (HKS7.out _ e HE.out HTB.out) (fun hHeld=>?_)
       clear hK K
       try go_frame
       clear n7 n7b;refine rdy 18 (fun K hK=>?_)
       go_simp
       refine (zEv HTD7.out HE.out HKL1.out i s0'.pl HPE.out rfl).mono ?_
       rintro er w9 ⟨pa,pn,pk,rfl,k1,k2,k3⟩;have e7:=zAA k1 7 _ rfl
       have f7:=zAV k1 7
       have HK2:=Lib.hid k2
       have HK3:=Lib.hid k3
       clear k1 k2 k3
       go_wp2_with fail;refine hK.out _ _ (zBu HK2.out (zAN _ _ _) rfl HWP.out) (fun hHeld=>?_)
       clear hK K
       try go_frame
       refine tkv 19 (h:=tkv 20 (h:=?_))
       refine rdy 21 (fun K hK=>?_)
       go_simp
       refine hK.out _ _ (⟨HK2.out.c0,(HK2.out.look_yes (zAN _ _ _) HWP.out).2⟩) (fun hHeld=>?_)
       clear hK K
       try go_frame
       refine wpAnyH_done (by kernel_rfl) ?_ _
       clear hHeld e7 f7
       go_wp2_with fail
       go_roundw
       case rel =>
        obtain ⟨z1,z2,z3,z4,z5⟩:=HEND.out _ (layK y7 p (.slice pa pn pk)) (by rw [HS1.out];exact HK2.out) (by rw [HS1.out];exact Grows.trans (Grows.of_below (Below.refl _ _).drew) HK3.out) (by rw [HS1.out])
        exact ⟨j+1,s1,q,pc,_,by go_num,by omega,by rw [HS1.out];go_num,by rw [HS1.out];simp;omega,by rw [HS1.out];simp;omega,HE3,z1,z2,z3,z4,z5⟩
       case measure=>simp [intOf];omega
     ·have hl1:((lv:Int) == 0)=false:=by simpa using hl0
      obtain ⟨e,he,hs1⟩:=zFT HLV.out hl0 HP.out hp0 HE2.out
      have hgb1:=HGJ.out.step HWJ.out HE2.out
      rw [hg7.out] at he hs1;have hkl1:e.kids.length≤1000000:=by
       have:=hgb1.2.2.2 p { e with kids:=e.kids++[i] } (by rw [hs1];exact zAN _ _ _)
       simp at this;omega
      have HE:=Lib.hid he
      have HS1:=Lib.hid hs1
      have HKL1:=Lib.hid hkl1
      have HL0:=Lib.hid hl0
      clear he hs1 hkl1 hgb1 hl0
      go_wp2_with fail;refine wp_region_held_drew (S:=fun V=>V.cell? ⟨t,0,none⟩=some (.map (some mb))∧(Instr.lookup 93 (.map (some mb)) (.int .i64 p) false).run Tryz.prog V=.ok (.pointer (some ⟨y7.nb p,0,none⟩)) V) (by kernel_rfl) (HKS7.out _ e HE.out HTD7.out) (fun hHeld=>?_)
      have HTB:Hid (TreeAt (w7.drew.alloc (.cells #[.int .i64 i] 3)) t mb y7 g7 s0'.root next (s0'.n+1)):=HTD7.out.below ((Below.refl _ _).alloc (Nat.le_refl _) _)
      have n7:=HT7.out.n7 HE.out
      have n7b:(w7.alloc (.cells #[.int .i64 i] 3)).cell? ⟨y7.nb p,7,none⟩=some (y7.kid p):=(World.cell?_alloc_lt _ _ _ (Array.getElem?_eq_some_iff.1 (HT7.out.node p e HE.out)).1).trans n7
      refine tkv 0 (h:=tkv 1 (h:=tkv 2 (h:=tkv 3 (h:=tkv 4 (h:=tkv 5 (h:=?_))))))
      refine tkv 6 (h:=tkv 7 (h:=tkv 8 (h:=tkv 9 (h:=tkv 10 (h:=tkv 11 (h:=?_))))))
      refine tkv 12 (h:=tkv 13 (h:=?_))
      refine tkv 15 (h:=?_)
      refine wpAnyH_ready (rs:=[14,16]) (by kernel_rfl) (by simp) ?_
      refine AllReadyH.cons (o:=⟨_,_,_,_,_,_⟩) rfl (fun K hK=>?_) (AllReadyH.cons (o:=⟨_,_,_,_,_,_⟩) rfl (fun K hK=>?_) AllReadyH.nil)
      ·go_simp
       refine hK.out _ _ (HKS7.out _ e HE.out HTD7.out) (fun hHeld=>?_)
       clear hK K
       try go_frame
       refine rdy 16 (fun K hK=>?_)
       go_simp
       refine hK.out _ _ (HKS7.out _ e HE.out HTB.out) (fun hHeld=>?_)
       clear hK K
       try go_frame
       clear n7 n7b;refine rdy 17 (fun K hK=>?_)
       obtain ⟨pa,pn,pk,w9,hra,k1,k2,k3⟩:=zEu HTD7.out HE.out HKL1.out i
       refine zBz rfl (.tmp 78) (.tmp 80) 32 32 rfl (y7.kid p) (.slice (some ⟨w7.heap.size,0,none⟩) 1 1) (by simp [Act.eval]) (by simp [Act.eval]) hra ?_
       have e7:=zAA k1 7 _ rfl
       have f7:=zAV k1 7
       have HK2:=Lib.hid k2
       have HK3:=Lib.hid k3
       clear k1 k2 k3;refine hK.out _ _ (zBu HK2.out (zAN _ _ _) rfl HWP.out) (fun hHeld=>?_)
       clear hK K
       try go_frame
       refine tkv 18 (h:=tkv 19 (h:=?_))
       refine rdy 20 (fun K hK=>?_)
       go_simp
       refine hK.out _ _ (⟨HK2.out.c0,(HK2.out.look_yes (zAN _ _ _) HWP.out).2⟩) (fun hHeld=>?_)
       clear hK K
       try go_frame
       refine wpAnyH_done (by kernel_rfl) ?_ _
       clear hHeld e7 f7
       go_wp2_with fail
       go_roundw
       case rel =>
        obtain ⟨z1,z2,z3,z4,z5⟩:=HEND.out _ (layK y7 p (.slice pa pn pk)) (by rw [HS1.out];exact HK2.out) (by rw [HS1.out];exact Grows.trans (Grows.of_below (Below.refl _ _).drew) HK3.out) (by rw [HS1.out])
        exact ⟨j+1,s1,q,pc,_,by go_num,by omega,by rw [HS1.out],by rw [HS1.out];simp;omega,by rw [HS1.out];simp;omega,HE3,z1,z2,z3,z4,z5⟩
       case measure=>simp [intOf];omega
      ·go_simp
       refine hK.out _ _ (HKS7.out _ e HE.out HTB.out) (fun hHeld=>?_)
       clear hK K
       try go_frame
       refine rdy 14 (fun K hK=>?_)
       go_simp
       refine hK.out _ _ (HKS7.out _ e HE.out HTB.out) (fun hHeld=>?_)
       clear hK K
       try go_frame
       clear n7 n7b;refine rdy 17 (fun K hK=>?_)
       obtain ⟨pa,pn,pk,w9,hra,k1,k2,k3⟩:=zEu HTD7.out HE.out HKL1.out i
       refine zBz rfl (.tmp 78) (.tmp 80) 32 32 rfl (y7.kid p) (.slice (some ⟨w7.heap.size,0,none⟩) 1 1) (by simp [Act.eval]) (by simp [Act.eval]) hra ?_
       have e7:=zAA k1 7 _ rfl
       have f7:=zAV k1 7
       have HK2:=Lib.hid k2
       have HK3:=Lib.hid k3
       clear k1 k2 k3;refine hK.out _ _ (zBu HK2.out (zAN _ _ _) rfl HWP.out) (fun hHeld=>?_)
       clear hK K
       try go_frame
       refine tkv 18 (h:=tkv 19 (h:=?_))
       refine rdy 20 (fun K hK=>?_)
       go_simp
       refine hK.out _ _ (⟨HK2.out.c0,(HK2.out.look_yes (zAN _ _ _) HWP.out).2⟩) (fun hHeld=>?_)
       clear hK K
       try go_frame
       refine wpAnyH_done (by kernel_rfl) ?_ _
       clear hHeld e7 f7
       go_wp2_with fail
       go_roundw
       case rel =>
        obtain ⟨z1,z2,z3,z4,z5⟩:=HEND.out _ (layK y7 p (.slice pa pn pk)) (by rw [HS1.out];exact HK2.out) (by rw [HS1.out];exact Grows.trans (Grows.of_below (Below.refl _ _).drew) HK3.out) (by rw [HS1.out])
        exact ⟨j+1,s1,q,pc,_,by go_num,by omega,by rw [HS1.out],by rw [HS1.out];simp;omega,by rw [HS1.out];simp;omega,HE3,z1,z2,z3,z4,z5⟩
       case measure=>simp [intOf];omega
  ·have hjm':¬ (j:Int)<(m:Int):=by omega
   obtain ⟨i0,hi0⟩:∃ i,ids[0]? = some i:=⟨_,List.getElem?_eq_getElem (by rw [hll];exact hl0)⟩
   have hjl:j=m:=by omega
   have hzt:(l.zip ids).take j=l.zip ids:=List.take_of_length_le (by rw [List.length_zip,hm.out];omega)
   have h2:=hgs.out
   rw [hzt,HS.out] at h2
   injection h2 with h2
   rw [HVI.out] at hidr;have hid2:wr.ownsRow 0 3 1 (.slice VA m vc) m (ids.map (Value.int .i64)):=by
    have:=hidr
    unfold intRow at this;rw [hll] at this;exact this
   obtain ⟨_,vc',hvv,_,_,hV0,hV1⟩:=zAR hid2
   injection hvv with hvv _ hvc
   subst hvc;cases VA with
   | none=>rw [← hvv] at hV0;have:=(hV0 rfl).1;omega
   | some va =>
    obtain ⟨vb,rfl,_⟩:=hV1 va hvv.symm
    have cid:=zAd hid2 0 (.int .i64 i0) (by rw [List.getElem?_map,hi0];rfl)
    have HI0:=Lib.hid hi0
    have HZ2:Hid (s2=s0):=h2
    clear hid2 hidr hV0 hV1 hvv hIr hz hi0 h2 hzt hjl
    go_wp2_with fail
    go_ret;refine ⟨i0,HI0.out,rfl,mb,y0,?_,?_⟩
    ·rw [HZ2.out];exact ht.out
    ·rw [HZ2.out];exact hgr.out
end
end
end Go.Proofs.YtcombcoilpmnkaaGreat

/-
  Texts of this claim, joined (by a program of the claim's author): GRead, GKid, GBelow, GIter, GTurn, GRow, GIns, GDel, GOrd, GSet.
-/
import Derived.Test.YtcombcoilpmnkaaGreatWF1
import Derived.Test.YtcombcoilpmnkaaGreatWF2
import Derived.Deep.QuietTactic
import Derived.BigQuiet
import Derived.Lib.BufferOwn
import Derived.Laws.CopyRow
import Derived.Laws.IdiomCopy
import Derived.Lib.Overlaps
import Derived.Lib.AppendZerosOnto
import Derived.Lib.AppendZeros
import Derived.Lib.SliceRun
import Derived.Lib.Walk
import Derived.Laws.Externs
import Derived.Deep.RegionLaw
import Derived.Shelf.Spec.SlicesInsert
import Derived.WalkSpells
namespace Go.Proofs.YtcombcoilpmnkaaGreat
set_option maxRecDepth 100000
set_option maxHeartbeats 16000000
section
open Go.RowKit
theorem zAA {w:World} {b:Nat} {cur:Array Value} {T:TypeId} (h:w.heap[b]? = some (.cells cur T (0,0))) (j:Nat) (v:Value) (hv:cur[j]? = some v):w.cell? ⟨b,j,none⟩=some v:=by simp [World.cell?,h,hv]
theorem zAV {w:World} {b:Nat} {cur:Array Value} {T:TypeId} (h:w.heap[b]? = some (.cells cur T (0,0))) (j:Nat):w.frozen? ⟨b,j,none⟩=false:=by simp [World.frozen?,h]
section
variable {w:World} {t mb:Nat} {y:Lay} {g:Int→Option Ent} {root next:Int} {n:Nat}
theorem TreeAt.c0 (h:TreeAt w t mb y g root next n):w.cell? ⟨t,0,none⟩=some (.map (some mb)):=zAA h.tree 0 _ rfl
theorem TreeAt.c1 (h:TreeAt w t mb y g root next n):w.cell? ⟨t,1,none⟩=some (.int .i64 root):=zAA h.tree 1 _ rfl
theorem TreeAt.c2 (h:TreeAt w t mb y g root next n):w.cell? ⟨t,2,none⟩=some (.int .i64 next):=zAA h.tree 2 _ rfl
theorem TreeAt.look_yes (h:TreeAt w t mb y g root next n) {id:Int} {e:Ent} (he:g id=some e) (hw:wfI id) :
  (Instr.lookup 93 (.map (some mb)) (.int .i64 id) true).run Tryz.prog w=.ok (.tuple #[.pointer (some ⟨y.nb id,0,none⟩),.bool true]) w ∧
  (Instr.lookup 93 (.map (some mb)) (.int .i64 id) false).run Tryz.prog w=.ok (.pointer (some ⟨y.nb id,0,none⟩)) w:=by
 have h1:=h.map.look_ok hw
 have h2:=h.map.look hw
 simp only [he,Option.map_some,Option.isSome_some] at h1 h2;exact ⟨h1,h2⟩
theorem TreeAt.look_no (h:TreeAt w t mb y g root next n) {id:Int} (he:g id=none) (hw:wfI id) :
  (Instr.lookup 93 (.map (some mb)) (.int .i64 id) true).run Tryz.prog w=.ok (.tuple #[.pointer none,.bool false]) w ∧
  (Instr.lookup 93 (.map (some mb)) (.int .i64 id) false).run Tryz.prog w=.ok (.pointer none) w:=by
 have h1:=h.map.look_ok hw
 have h2:=h.map.look hw
 simp only [he,Option.map_none,Option.isSome_none] at h1 h2;exact ⟨h1,h2⟩
theorem TreeAt.n0 (h:TreeAt w t mb y g root next n) {id:Int} {e:Ent} (he:g id=some e):w.cell? ⟨y.nb id,0,none⟩=some (.int .i64 id):=zAA (h.node id e he) 0 _ rfl
theorem TreeAt.n1 (h:TreeAt w t mb y g root next n) {id:Int} {e:Ent} (he:g id=some e):w.cell? ⟨y.nb id,1,none⟩=some (.int .i64 e.par):=zAA (h.node id e he) 1 _ rfl
theorem TreeAt.n2 (h:TreeAt w t mb y g root next n) {id:Int} {e:Ent} (he:g id=some e):w.cell? ⟨y.nb id,2,none⟩=some (.int .i64 e.d.kind):=zAA (h.node id e he) 2 _ rfl
theorem TreeAt.n4 (h:TreeAt w t mb y g root next n) {id:Int} {e:Ent} (he:g id=some e):w.cell? ⟨y.nb id,4,none⟩=some (.string ⟨e.d.name.toArray⟩):=zAA (h.node id e he) 4 _ rfl
theorem TreeAt.n5 (h:TreeAt w t mb y g root next n) {id:Int} {e:Ent} (he:g id=some e):w.cell? ⟨y.nb id,5,none⟩=some (.string ⟨e.d.text.toArray⟩):=zAA (h.node id e he) 5 _ rfl
theorem TreeAt.n6 (h:TreeAt w t mb y g root next n) {id:Int} {e:Ent} (he:g id=some e):w.cell? ⟨y.nb id,6,none⟩=some (y.att id):=zAA (h.node id e he) 6 _ rfl
theorem TreeAt.n7 (h:TreeAt w t mb y g root next n) {id:Int} {e:Ent} (he:g id=some e):w.cell? ⟨y.nb id,7,none⟩=some (y.kid id):=zAA (h.node id e he) 7 _ rfl
end
theorem zAR {w:World} {e:TypeId} {size:Nat} {v:Value} {n:Nat} {xs:List Value} (h:w.ownsRow 0 e size v n xs):∃ (A:Option Addr) (c:Nat),v=.slice A n c∧n≤c∧c≤maxLen∧(A=none→n=0∧c=0)∧(∀ ad,A=some ad → ∃ g,ad=⟨g,0,none⟩∧g<w.heap.size):=by
 rcases h.2 with ⟨rfl,rfl⟩ | ⟨g,cap,cur,rfl,h1,h2,h3,h4,h5,h6⟩
 ·exact ⟨none,0,rfl,Nat.le_refl _,by decide,fun _=>⟨rfl,rfl⟩,fun _ h=>by cases h⟩
 ·exact ⟨some ⟨g,0,none⟩,cap,rfl,h3,h4,fun h=>(by cases h),fun ad e=>⟨g,(by injection e with e;exact e.symm),(Array.getElem?_eq_some_iff.1 h2).1⟩⟩
theorem zLo (w:World):Calls Tryz.prog 25 #[] w fun e w'=>e=.returned (.pointer (some ⟨w.heap.size+1,0,none⟩))∧Below w.heap.size w w' ∧ ∃ y,TreeAt w' (w.heap.size+1) w.heap.size y (fun _=>none) 0 1 0:=by
 have hmm:=@run_makeMap Tryz.prog
 go_enter Tryz.func25,Tryz.ntmps25
 go_wp2_with fail
 go_ret;refine ⟨rfl,((Below.refl _ w).alloc (Nat.le_refl _) _).alloc (by simp) _,⟨fun _=>0,fun _=>.slice none 0 0,fun _=>.slice none 0 0⟩,?_⟩
 refine ⟨?_,(MapG.new w).keep (Below.heap_alloc _ _ _ (by simp)),fun _ _ h=>(by cases h),fun _ _ h=>(by cases h),fun _ _ h=>(by cases h),fun _ _ _ _ h=>(by cases h)⟩
 exact heap_alloc2_new w _ _
section
variable {w:World} {t mb:Nat} {y:Lay} {g:Int→Option Ent} {root next:Int} {n:Nat}
theorem zKd (h:TreeAt w t mb y g root next n):Calls Tryz.prog 173 #[.pointer (some ⟨t,0,none⟩)] w fun e w'=>e=.returned (.int .i64 root)∧w=w':=by
 have c1:=h.c1
 go_enter Tryz.func173,Tryz.ntmps173
 go_wp2_with fail
 go_ret;exact ⟨rfl,rfl⟩
end
end
section
open Go.RowKit
def Lev (g:Int→Option Ent):Nat→Int→Prop
 | 0,id=>∃ e,g id=some e∧e.par=0
 | l+1,id=>∃ e,g id=some e∧e.par≠0∧Lev g l e.par
section
variable {w:World} {t mb:Nat} {y:Lay} {g:Int→Option Ent} {root next:Int} {n:Nat}
theorem zLl (h:TreeAt w t mb y g root next n) {id:Int} {e:Ent} (k:Nat) (x:Int) (hw:wfI id) (he:g id=some e) (hk:e.kids[k]? = some x) :
  Calls Tryz.prog 42 #[.pointer (some ⟨t,0,none⟩),.int .i64 id,.int .i64 k] w fun e w'=>e=.returned (.tuple #[.int .i64 x,.bool true])∧w=w':=by
 have c0:=h.c0
 have hl:=(h.look_yes he hw).1
 have c7:=h.n7 he
 have hkl:k<e.kids.length:=(List.getElem?_eq_some_iff.1 hk).1
 obtain ⟨A,c,hv,_,_,hA0,hA1⟩:=zAR (h.kid id e he)
 have hrow:=h.kid id e he
 unfold intRow at hrow;rw [hv] at c7 hrow;cases A with
 | none=>have:=(hA0 rfl).1;omega
 | some ad =>
  obtain ⟨b,rfl,_⟩:=hA1 ad rfl
  have cx:=zAd hrow k (.int .i64 x) (by rw [List.getElem?_map,hk];rfl)
  have hk0:(0:Int)≤(k:Int):=by omega
  have hk1:(k:Int)<(e.kids.length:Int):=by omega
  clear hrow hA0 hA1 hk hkl hv
  go_enter Tryz.func42,Tryz.ntmps42
  go_wp2_with fail
  go_ret2;exact ⟨rfl,rfl⟩
end
end
section
open Go.RowKit Go.Shelf
attribute [local go_sem] Oper.semAt_some
def markOf (b:Nat):Deferred:={ target:=.collected b,args:=#[] }
theorem zAO {n:Nat} {P:Program} {fn:Func} {tmps:Array Value} {R:Ending→World→Prop}:∀ (bs:List Nat) (w:World),bs.Nodup→(∀ b∈bs,w.heap[b]? = some (.deferred (some []))) →
  (∀ w',Turn (fun b=>b∈bs) w w' → ∃ v,(results fn tmps).run P w'=.ok v w'∧R (.returned v) w')→LeavesInM Fence.wide n P fn tmps R (bs.map markOf) .returning w
 | [],w,_,_,h=>h w (Turn.refl _ _)
 | b :: bs,w,hn,hb,h=>by
  have q2:=hb b List.mem_cons_self
  have hn':=List.nodup_cons.1 hn
  refine ⟨by simp,.inl ⟨b,_,rfl,run_takeDeferred q2,?_⟩⟩
  refine zAO bs _ hn'.2 (fun b' hb'=>?_) (fun w' hw'=>h w' ((zAg w _ List.mem_cons_self).trans (hw'.mono fun _ h=>List.mem_cons_of_mem _ h)))
  exact (World.putObj_heap_other (fun e=>hn'.1 (by rw [← e];exact hb'))).trans (hb b' (List.mem_cons_of_mem _ hb'))
theorem zAo {N:Nat} {Fp0 Fp:Nat→Prop} {W wr w':World} {bs:List Nat} {p:(Nat→Prop)→World→Prop} (hg:Grows Fp0 Fp W wr) (hb:∀ b,Fp b→b<wr.heap.size) (hN:∀ b∈bs,N≤b∧W.heap.size≤b) (hF:∀ b∈bs,¬ Fp b)
  (ht:Turn (fun b=>b∈bs) wr w') (hp:StabF N Fp (p Fp)) (h:p Fp wr):Left Fp0 W p w':=by
 refine ⟨Fp,⟨⟨ht.os.trans hg.1.os,ht.tape.trans hg.1.tape,ht.output.trans hg.1.output,Nat.le_trans hg.1.size ht.size,fun b hb1 hf=>?_⟩,hg.2⟩,fun b h1=>Nat.lt_of_lt_of_le (hb b h1) ht.size,hp wr w' h (ht.mono fun b h1=>⟨(hN b h1).1,hF b h1⟩)⟩
 exact (ht.block b (Nat.lt_of_lt_of_le hb1 hg.1.size) (fun h1=>by have:=(hN b h1).2;omega)).trans (hg.1.block b hb1 hf)
theorem zA1 {Fp3 Fq:Nat→Prop} {W3 A B:World} {N:Nat} (h:Grows Fp3 Fq W3 A) (hN:W3.heap.size≤N) (hk:Keep N Fq A B):Grows Fp3 Fq W3 B :=
 ⟨⟨hk.os.trans h.1.os,hk.tape.trans h.1.tape,hk.output.trans h.1.output,Nat.le_trans h.1.size hk.size,fun b hb hf=>(Keep.block hk (Nat.lt_of_lt_of_le hb h.1.size) (.inl (by omega))).trans (h.1.block b hb hf)⟩,h.2⟩
theorem zHp {Fq Fr:Nat→Prop} {W' W5:World} {bs:List Nat} (h:∀ b∈bs,¬ Fq b∧W'.heap[b]? = some (.deferred (some []))) (hl:∀ b∈bs,b<W'.heap.size) (hg:Grows Fq Fr W' W5):∀ b∈bs,¬ Fr b∧W5.heap[b]? = some (.deferred (some [])):=fun b hb=>by
 obtain ⟨q1,q2⟩:=h b hb
 refine ⟨fun hf=>?_,(hg.1.block b (hl b hb) q1).trans q2⟩
 rcases hg.2 b hf with h1 | h1
 ·exact q1 h1
 ·have:=hl b hb;omega
/-! ## What is gone through -/
def visF:Int→Fo→List (Int × Int)
 | _,.nil=>[]
 | lv,.cons id _ ks r=>(id,lv) :: (visF (lv+1) ks++visF lv r)
def Fo.trees:Fo→List (Int × NodeD × Fo)
 | .nil=>[]
 | .cons id d ks r=>(id,d,ks) :: trees r
theorem zBA:∀ f:Fo,f.trees.map (·.1)=f.roots
 | .nil=>rfl
 | .cons id d ks r=>by simp [Fo.trees,Fo.roots,zBA r]
def visT (lv:Int) (t:Int × NodeD × Fo):List (Int × Int):=(t.1,lv) :: visF (lv+1) t.2.2
theorem zEX (lv:Int):∀ f:Fo,visF lv f=f.trees.flatMap (visT lv)
 | .nil=>rfl
 | .cons id d ks r=>by simp [visF,Fo.trees,visT,zEX lv r]
def Agr (g:Int→Option Ent):Int→Fo→Prop
 | _,.nil=>True
 | q,.cons id d ks r=>g id=some ⟨q,d,ks.roots⟩∧Agr g id ks∧Agr g q r
def encV (x:Int × Int):Array Value:=#[.int .i64 x.1,.int .i64 x.2]
theorem zDr (w:World) (t:Nat) (id lv:Int):Calls Tryz.prog 50 #[.pointer (some ⟨t,0,none⟩),.int .i64 id,.int .i64 lv] w fun e w' =>
  e=.returned (.func (.func 72) #[] #[.pointer (some ⟨w.heap.size,0,none⟩),.pointer (some ⟨w.heap.size+1,0,none⟩),.pointer (some ⟨w.heap.size+2,0,none⟩)]) ∧
  w'=((w.alloc (.cells #[.pointer (some ⟨t,0,none⟩)] 24)).alloc (.cells #[.int .i64 id] 3)).alloc (.cells #[.int .i64 lv] 3):=by
 go_enter Tryz.func50,Tryz.ntmps50
 go_wp2_with fail
 go_ret;exact ⟨rfl,rfl⟩
theorem zJw {t mb:Nat} {y:Lay} {g:Int→Option Ent} {root next:Int} {n:Nat} (hwf:∀ id e,g id=some e→wfI id) (q id lv:Int) (d:NodeD) (ks:Fo)
  (hid:g id=some ⟨q,d,ks.roots⟩) (hlv:0≤lv∧lv≤1000000)
  (hkids:∀ (j:Nat) (k:Int) (dk:NodeD) (kk:Fo),ks.trees[j]? = some (k,dk,kk) → ∀ (w:World) (bt bi bl:Nat),TreeAt w t mb y g root next n→w.heap[bt]? = some (.cells #[.pointer (some ⟨t,0,none⟩)] 24 (0,0))→w.heap[bi]? = some (.cells #[.int .i64 k] 3 (0,0))→w.heap[bl]? = some (.cells #[.int .i64 (lv+1)] 3 (0,0)) →
   IterG Tryz.prog 72 #[.pointer (some ⟨bt,0,none⟩),.pointer (some ⟨bi,0,none⟩),.pointer (some ⟨bl,0,none⟩)] encV (visT (lv+1) (k,dk,kk)) (fun b=>Mine t mb y g b∨b=bt∨b=bi∨b=bl) w)
  (w:World) (bt bi bl:Nat) (ht:TreeAt w t mb y g root next n) (h1:w.heap[bt]? = some (.cells #[.pointer (some ⟨t,0,none⟩)] 24 (0,0))) (h2:w.heap[bi]? = some (.cells #[.int .i64 id] 3 (0,0))) (h3:w.heap[bl]? = some (.cells #[.int .i64 lv] 3 (0,0))) :
  IterG Tryz.prog 72 #[.pointer (some ⟨bt,0,none⟩),.pointer (some ⟨bi,0,none⟩),.pointer (some ⟨bl,0,none⟩)] encV (visT lv (id,d,ks)) (fun b=>Mine t mb y g b∨b=bt∨b=bi∨b=bl) w:=by
 intro n0 l J Jx W Fp0 hD hsz hC hJ hJx hY h0;have HD:=Lib.hid hD
 have HC:=Lib.hid hC
 have HY:=Lib.hid hY
 have HKIDS:=Lib.hid hkids
 have htW:TreeAt W t mb y g root next n:=ht.keep fun b hb=>(hD b (.inl hb)).2
 have g1:W.heap[bt]? = some (.cells #[.pointer (some ⟨t,0,none⟩)] 24 (0,0)):=(hD bt (.inr (.inl rfl))).2.trans h1
 have g2:W.heap[bi]? = some (.cells #[.int .i64 id] 3 (0,0)):=(hD bi (.inr (.inr (.inl rfl)))).2.trans h2
 have g3:W.heap[bl]? = some (.cells #[.int .i64 lv] 3 (0,0)):=(hD bl (.inr (.inr (.inr rfl)))).2.trans h3
 have HWF:=Lib.hid hwf
 obtain ⟨W1,hW1⟩:∃ W1,Hid (W1=W.alloc (.cells #[.func (.yield l) #[] #[]] 136)):=⟨_,rfl⟩
 have hb1:Below W.heap.size W W1:=by rw [hW1.out];exact (Below.refl _ W).alloc (Nat.le_refl _) _
 have hY1:W1.heap[W.heap.size]? = some (.cells #[.func (.yield l) #[] #[]] 136 (0,0)):=by rw [hW1.out];exact heap_alloc_new W _
 have ht1:TreeAt W1 t mb y g root next n:=htW.below hb1
 have k1:W1.heap[bt]? = some (.cells #[.pointer (some ⟨t,0,none⟩)] 24 (0,0)):=(hb1.block bt (Array.getElem?_eq_some_iff.1 g1).1).trans g1
 have k2:W1.heap[bi]? = some (.cells #[.int .i64 id] 3 (0,0)):=(hb1.block bi (Array.getElem?_eq_some_iff.1 g2).1).trans g2
 have k3:W1.heap[bl]? = some (.cells #[.int .i64 lv] 3 (0,0)):=(hb1.block bl (Array.getElem?_eq_some_iff.1 g3).1).trans g3
 have HB1:=Lib.hid hb1
 have HT1:=Lib.hid ht1
 have HK1:=Lib.hid k1
 have HK2:=Lib.hid k2
 have HK3:=Lib.hid k3
 have HKY:=Lib.hid hY1
 have HJ:=Lib.hid hJ
 have HJX:=Lib.hid hJx
 have HJ0:Hid (J 0 Fp0 W1):=hJ 0 Fp0 W W1 h0 (Keep.of_below hb1)
 have f1:=zAA k1 0 _ rfl
 have f2:=zAA k2 0 _ rfl
 have c0:=ht1.c0
 have hl:=fun (k:Nat)=>((ht1.keep (w':=W1.drewN k) (fun _ _=>rfl)).look_yes hid (hwf id _ hid)).1
 clear hD hC hY hkids ht h1 h2 h3 htW g1 g2 g3 hwf hb1 hY1 ht1 k1 k2 k3 hJ hJx h0;refine callsIn_of_wp_marks Tryz.func72 rfl trivial ?_ rfl
 simp only [Tryz.ntmps72,List.size_toArray,List.length_cons,List.length_nil,Nat.reduceAdd,Nat.reduceSub,Array.replicate_succ,Array.replicate_zero,List.push_toArray,List.append_toArray,List.nil_append,List.cons_append]
 gi_wp2
 refine wpIn_wide.2 ?_
 rw [← hW1.out]
 go_quiet (fail)
 obtain ⟨W2,hW2⟩:∃ W2,Hid (W1.drewN nq=W2):=⟨_,rfl⟩
 rw [hW2.out];have same2:∀ b:Nat,W2.heap[b]? = W1.heap[b]?:=fun b=>by rw [← hW2.out];rfl
 have hb2:Below W.heap.size W W2:=by rw [← hW2.out];exact ⟨HB1.out.os,HB1.out.tape,HB1.out.output,HB1.out.size,HB1.out.block⟩
 have ht2:TreeAt W2 t mb y g root next n:=HT1.out.keep fun b _=>same2 b
 have k1:W2.heap[bt]? = some (.cells #[.pointer (some ⟨t,0,none⟩)] 24 (0,0)):=(same2 bt).trans HK1.out
 have k2:W2.heap[bi]? = some (.cells #[.int .i64 id] 3 (0,0)):=(same2 bi).trans HK2.out
 have k3:W2.heap[bl]? = some (.cells #[.int .i64 lv] 3 (0,0)):=(same2 bl).trans HK3.out
 have hY2:W2.heap[W.heap.size]? = some (.cells #[.func (.yield l) #[] #[]] 136 (0,0)):=(same2 _).trans HKY.out
 have HB2:=Lib.hid hb2
 have HT2:=Lib.hid ht2
 have HG1:=Lib.hid k1
 have HG2:=Lib.hid k2
 have HG3:=Lib.hid k3
 have HGY:=Lib.hid hY2
 have hb12:Below W1.heap.size W1 W2:=⟨by rw [← hW2.out];rfl,by rw [← hW2.out];rfl,by rw [← hW2.out];rfl,by rw [← hW2.out];exact Nat.le_refl _,fun b _=>same2 b⟩
 have HJ2:Hid (J 0 Fp0 W2):=HJ.out 0 Fp0 W1 W2 HJ0.out (Keep.of_below hb12)
 obtain ⟨fn,tmps,assign,body,hy,hR⟩:=HY.out 0 (id,lv) Fp0 W2 rfl HJ2.out hb2.size (fun b hb=>by have:=(HC.out b hb).1;have:=hb2.size;omega)
 have hsz2:W.heap.size<W2.heap.size:=(Array.getElem?_eq_some_iff.1 hY2).1
 dsimp only [encV] at hy
 have f1:=zAA k1 0 _ rfl
 have f2:=zAA k2 0 _ rfl
 have f3:=zAA k3 0 _ rfl
 have f4:=zAA hY2 0 _ rfl
 clear hl same2 hb2 hb12 ht2 k1 k2 k3 hY2 c0;have HRR:=Lib.hid hR
 clear hR
 gi_wp2
 refine ⟨fun h=>(by cases h),?_⟩
 refine (RoundIn.anyD HRR.out).mono ?_
 have notD:∀ (Fp:Nat→Prop),(∀ b,Fp b→Fp0 b∨W2.heap.size≤b) → ∀ b,b<W2.heap.size→(Mine t mb y g b∨b=bt∨b=bi∨b=bl∨b=W.heap.size) → ¬ Fp b:=by
  intro Fp hF b hb hD hf;rcases hF b hf with h | h
  ·obtain ⟨q1,q2⟩:=HC.out b h
   rcases hD with hD | rfl | rfl | rfl | rfl
   ·exact q2 (.inl hD)
   ·exact q2 (.inr (.inl rfl))
   ·exact q2 (.inr (.inr (.inl rfl)))
   ·exact q2 (.inr (.inr (.inr rfl)))
   ·omega
  ·omega
 have ND:=Lib.hid notD
 clear notD;rintro e W3 (⟨rfl,Fp3,hG3,hB3,hJ3⟩ | ⟨rfl,Fp3,hG3,hB3,hx3⟩)
 ·have nD3:=ND.out Fp0 (fun b hb=>.inl hb)
  have same3:∀ b,b<W2.heap.size → ¬ Fp0 b→W3.heap[b]? = W2.heap[b]?:=hG3.1.block
  have ht3:TreeAt W3 t mb y g root next n:=HT2.out.keep fun b hb=>same3 b (HT2.out.lt hb) (nD3 b (HT2.out.lt hb) (.inl hb))
  have l1:=(Array.getElem?_eq_some_iff.1 HG1.out).1
  have l2:=(Array.getElem?_eq_some_iff.1 HG2.out).1
  have l3:=(Array.getElem?_eq_some_iff.1 HG3.out).1
  have k1:W3.heap[bt]? = some (.cells #[.pointer (some ⟨t,0,none⟩)] 24 (0,0)):=(same3 bt l1 (nD3 _ l1 (.inr (.inl rfl)))).trans HG1.out
  have k2:W3.heap[bi]? = some (.cells #[.int .i64 id] 3 (0,0)):=(same3 bi l2 (nD3 _ l2 (.inr (.inr (.inl rfl))))).trans HG2.out
  have k3:W3.heap[bl]? = some (.cells #[.int .i64 lv] 3 (0,0)):=(same3 bl l3 (nD3 _ l3 (.inr (.inr (.inr (.inl rfl)))))).trans HG3.out
  have hY3:W3.heap[W.heap.size]? = some (.cells #[.func (.yield l) #[] #[]] 136 (0,0)):=(same3 _ hsz2 (nD3 _ hsz2 (.inr (.inr (.inr (.inr rfl)))))).trans HGY.out
  have c7:=ht3.n7 hid
  obtain ⟨A,c,hv,hnc,hcm,hA0,hA1⟩:=zAR (ht3.kid id _ hid)
  rw [hv] at c7;simp only at c7 hnc
  have hks:ks.roots.length≤9223372036854775807:=by unfold maxLen at hcm;omega
  obtain ⟨m,hm⟩:∃ m,Hid (ks.roots.length=m):=⟨_,rfl⟩
  rw [hm.out] at c7 hks;have HT3:=Lib.hid ht3
  have HG1':=Lib.hid k1
  have HG2':=Lib.hid k2
  have HG3':=Lib.hid k3
  have HGY':=Lib.hid hY3
  have HJ3:=Lib.hid hJ3
  have HTU3:=Lib.hid hG3
  have HBD3:=Lib.hid hB3
  have HNB3:Hid (∀ b,Fp3 b→Fp0 b∨W2.heap.size≤b):=hG3.2
  have hz23:=hG3.1.size
  have hsz3:W.heap.size<W3.heap.size:=by have:=(Array.getElem?_eq_some_iff.1 hY3).1;omega
  clear same3 ht3 k1 k2 k3 hY3 hJ3 hG3 hB3 nD3 f1 f2 f3 f4 hy
  gi_wp2
  refine wpIn_loop (fun a wr=>∃ (j:Nat) (bs:List Nat) (Fp:Nat→Prop) (u7 u8 u9 u10 u35 u36 u37 u38 u39 u40 u41 u42 u43 u44 u45 u46 u47 u48 u49 u50:Value),a={ tmps:=#[Value.func (Fn.yield l) #[] #[],Value.pointer (some ⟨bt,0,none⟩),Value.pointer (some ⟨bi,0,none⟩),Value.pointer (some ⟨bl,0,none⟩),Value.pointer (some ⟨W.heap.size,0,none⟩),Value.pointer (some ⟨y.nb id,0,none⟩),Value.bool true,u7,u8,u9,u10,Value.tuple #[Value.pointer (some ⟨y.nb id,0,none⟩),Value.bool true],Value.pointer (some ⟨t,0,none⟩),Value.pointer (some ⟨t,0,none⟩),Value.pointer (some ⟨t,0,none⟩),Value.map (some mb),Value.int .i64 id,Value.tuple #[Value.pointer (some ⟨y.nb id,0,none⟩),Value.bool true],Value.pointer (some ⟨y.nb id,0,none⟩),Value.bool true,Value.bool true,Value.bool false,Value.bool false,Value.func (Fn.yield l) #[] #[],Value.int .i64 id,Value.int .i64 lv,Value.bool true,Value.bool false,Value.bool false,Value.pointer (some ⟨y.nb id,0,none⟩),Value.pointer (some ⟨y.nb id,0,none⟩),Value.pointer (some ⟨y.nb id,7,none⟩),Value.slice A m c,Value.int .i64 m,Value.int .i64 (j:Int),u35,u36,u37,u38,u39,u40,u41,u42,u43,u44,u45,u46,u47,u48,u49,u50],defers:=bs.map markOf }∧j≤m ∧
    Hid (J (1+((ks.trees.take j).flatMap (visT (lv+1))).length) Fp wr)∧Hid (Grows Fp3 Fp W3 wr)∧Hid (∀ b,Fp b→b<wr.heap.size)∧Hid (bs.Nodup ∧ ∀ b∈bs,W3.heap.size≤b ∧ ¬ Fp b∧wr.heap[b]? = some (.deferred (some [])))) (fun a _=>m-(intOf (a.tmps.getD 34 undef)).toNat) ?start ?round
  case start=>exact ⟨0,[],Fp3,_,_,_,_,_,_,_,_,_,_,_,_,_,_,_,_,_,_,_,_,rfl,Nat.zero_le _,by show J _ _ _;simpa using HJ3.out,Grows.refl Fp3 W3,HBD3.out,by simp,by simp⟩
  case round =>
   rintro a wr ⟨j,bs,Fp,u7,u8,u9,u10,u35,u36,u37,u38,u39,u40,u41,u42,u43,u44,u45,u46,u47,u48,u49,u50,rfl,hj,hJj,hTj,hBj,hbs⟩;have j0:(0:Int)≤(j:Int):=by omega
   have hszr:W3.heap.size≤wr.heap.size:=hTj.out.1.size
   have same:∀ b,b<W3.heap.size → ¬ Fp3 b→wr.heap[b]? = W3.heap[b]?:=hTj.out.1.block
   have nD3:=ND.out Fp3 HNB3.out
   have ltT:∀ b,Mine t mb y g b→b<W2.heap.size:=fun b hb=>HT2.out.lt hb
   have l1:=(Array.getElem?_eq_some_iff.1 HG1.out).1
   have l3:=(Array.getElem?_eq_some_iff.1 HG3.out).1
   have htr:TreeAt wr t mb y g root next n:=HT3.out.keep fun b hb=>same b (HT3.out.lt hb) (nD3 b (ltT b hb) (.inl hb))
   have k1:wr.heap[bt]? = some (.cells #[.pointer (some ⟨t,0,none⟩)] 24 (0,0)):=(same bt (by omega) (nD3 _ l1 (.inr (.inl rfl)))).trans HG1'.out
   have k3:wr.heap[bl]? = some (.cells #[.int .i64 lv] 3 (0,0)):=(same bl (by omega) (nD3 _ l3 (.inr (.inr (.inr (.inl rfl)))))).trans HG3'.out
   have hYr:wr.heap[W.heap.size]? = some (.cells #[.func (.yield l) #[] #[]] 136 (0,0)):=(same _ hsz3 (nD3 _ hsz2 (.inr (.inr (.inr (.inr rfl)))))).trans HGY'.out
   have hDF:∀ b,Mine t mb y g b → ¬ Fp b:=fun b hb hf=>by
    rcases hTj.out.2 b hf with h | h
    ·exact nD3 b (ltT b hb) (.inl hb) h
    ·have:=ltT b hb;omega
   have HDF:=Lib.hid hDF
   have hall:Grows Fp0 Fp W wr:=((Grows.of_below HB2.out).trans HTU3.out).trans hTj.out
   have HALL:=Lib.hid hall
   clear nD3 ltT hDF hall l1 l3;by_cases hlt:j<m
   ·obtain ⟨⟨k,dk,kk⟩,hkt⟩:∃ x,Hid (ks.trees[j]? = some x):=⟨ks.trees[j]'(by have:=congrArg List.length (zBA ks);rw [List.length_map,hm.out] at this;omega),List.getElem?_eq_getElem _⟩
    have hkr:ks.roots[j]? = some k:=by rw [← zBA,List.getElem?_map,hkt.out];rfl
    have hrow:=htr.kid id _ hid
    unfold intRow at hrow;rw [hv] at hrow;simp only [hm.out] at hrow;cases A with
    | none=>have:=(hA0 rfl).1;simp only [hm.out] at this;omega
    | some ad =>
     obtain ⟨gk,rfl,_⟩:=hA1 ad rfl
     have ck:=zAd hrow j (.int .i64 k) (by rw [List.getElem?_map,hkr];rfl)
     have f1:=zAA k1 0 _ rfl
     have f3:=zAA k3 0 _ rfl
     have HK1r:=Lib.hid k1
     have HKYr:=Lib.hid hYr
     have HTR:=Lib.hid htr
     have jm:(j:Int)<m:=by omega
     have lv1:lv+1≤1000001:=by omega
     obtain ⟨lv0,lv2⟩:=hlv
     clear same htr k1 k3 hYr hrow hkr
     gi_wp2
     refine ⟨trivial,fun h=>(by cases h),?_⟩
     refine (callsIn_wide.2 (zDr wr t k (lv+1))).mono ?_
     rintro e w4 ⟨rfl,hw4⟩;have hb4:Below wr.heap.size wr w4:=by rw [hw4];exact (((Below.refl _ wr).alloc (Nat.le_refl _) _).alloc (by simp) _).alloc (by simp;omega) _
     have hz4:w4.heap.size=wr.heap.size+3:=by rw [hw4];simp
     have b1:w4.heap[wr.heap.size]? = some (.cells #[.pointer (some ⟨t,0,none⟩)] 24 (0,0)):=by
      rw [hw4];refine (Below.heap_alloc _ _ _ (by simp;omega)).trans ((Below.heap_alloc _ _ _ (by simp)).trans (heap_alloc_new wr _))
     have b2:w4.heap[wr.heap.size+1]? = some (.cells #[.int .i64 k] 3 (0,0)):=by
      rw [hw4];refine (Below.heap_alloc _ _ _ (by simp)).trans ?_
      have:=heap_alloc_new (wr.alloc (.cells #[.pointer (some ⟨t,0,none⟩)] 24)) (.cells #[.int .i64 k] 3)
      simpa using this
     have b3:w4.heap[wr.heap.size+2]? = some (.cells #[.int .i64 (lv+1)] 3 (0,0)):=by
      rw [hw4];have:=heap_alloc_new ((wr.alloc (.cells #[.pointer (some ⟨t,0,none⟩)] 24)).alloc (.cells #[.int .i64 k] 3)) (.cells #[.int .i64 (lv+1)] 3)
      simpa using this
     have hit:=HKIDS.out j k dk kk hkt.out w4 (wr.heap.size) (wr.heap.size+1) (wr.heap.size+2) (HTR.out.below hb4) b1 b2 b3
     have HIT:=Lib.hid hit
     have HB4:=Lib.hid hb4
     have HY4:Hid (w4.heap[W.heap.size]? = some (.cells #[.func (.yield l) #[] #[]] 136 (0,0))):=(hb4.block _ (Array.getElem?_eq_some_iff.1 HKYr.out).1).trans HKYr.out
     have hT4:Grows Fp3 Fp W3 w4:=hTj.out.trans (Grows.of_below hb4)
     have hJ4:J (1+((ks.trees.take j).flatMap (visT (lv+1))).length) Fp w4:=HJ.out _ Fp wr w4 hJj.out (Keep.of_below hb4)
     have hbs4:bs.Nodup ∧ ∀ b∈bs,W3.heap.size≤b∧b<w4.heap.size ∧ ¬ Fp b∧w4.heap[b]? = some (.deferred (some [])):=⟨hbs.out.1,fun b hb=>by
      obtain ⟨q1,q0,q2⟩:=hbs.out.2 b hb
      have q3:=(Array.getElem?_eq_some_iff.1 q2).1
      exact ⟨q1,by omega,q0,(hb4.block b q3).trans q2⟩⟩
     have hB4:∀ b,Fp b→b<wr.heap.size:=hBj.out
     have HALL4:Hid (Grows Fp0 Fp W w4):=HALL.out.trans (Grows.of_below hb4)
     have hlen:Hid (((ks.trees.take (j+1)).flatMap (visT (lv+1))).length=((ks.trees.take j).flatMap (visT (lv+1))).length+(visT (lv+1) (k,dk,kk)).length):=by
      show _=_
      rw [List.take_add_one,hkt.out];simp
     have hget:Hid (∀ (i:Nat) (x:Int × Int),(visT (lv+1) (k,dk,kk))[i]? = some x→(visT lv (id,d,ks))[1+((ks.trees.take j).flatMap (visT (lv+1))).length+i]? = some x):=by
      intro i x hx;have e1:visT lv (id,d,ks)=(id,lv) :: (((ks.trees.take j).flatMap (visT (lv+1))++visT (lv+1) (k,dk,kk))++(ks.trees.drop (j+1)).flatMap (visT (lv+1))):=by
       have e2:ks.trees=ks.trees.take j++((k,dk,kk) :: ks.trees.drop (j+1)):=by rw [← zAY hkt.out,List.take_append_drop]
       show (id,lv) :: visF (lv+1) ks=_
       rw [zEX]
       conv=>lhs;rw [e2]
       rw [List.flatMap_append,List.flatMap_cons,List.append_assoc]
      have hil:=(List.getElem?_eq_some_iff.1 hx).1
      rw [e1,show 1+((ks.trees.take j).flatMap (visT (lv+1))).length+i=(((ks.trees.take j).flatMap (visT (lv+1))).length+i)+1 by omega,List.getElem?_cons_succ,List.getElem?_append_left (by rw [List.length_append];omega),List.getElem?_append_right (by omega)]
      rw [show ((ks.trees.take j).flatMap (visT (lv+1))).length+i-((ks.trees.take j).flatMap (visT (lv+1))).length=i by omega]
      exact hx
     obtain ⟨S0,hS0⟩:∃ S0,Hid (1+((ks.trees.take j).flatMap (visT (lv+1))).length=S0):=⟨_,rfl⟩
     rw [hS0.out] at hJ4;have HT4:=Lib.hid hT4
     have HJ4:=Lib.hid hJ4
     have HBS4:=Lib.hid hbs4
     have hsz4:W3.heap.size≤w4.heap.size:=by omega
     have HFB:=Lib.hid hB4
     clear hit hb4 b1 b2 b3 hT4 hJ4 hbs4 hB4 hw4 f1 f3 ck hbs hJj hTj hBj
     gi_wp2
     refine zCE (gf:=72) (lb:=#[.pointer (some ⟨wr.heap.size,0,none⟩),.pointer (some ⟨wr.heap.size+1,0,none⟩),.pointer (some ⟨wr.heap.size+2,0,none⟩)]) rfl (enters_of Tryz.func72 (by kernel_rfl) rfl)
      HIT.out (fun b hb=>⟨?dlt,rfl⟩) (Nat.le_refl _) (fun _=>rfl) Fp (fun b hb=>⟨?clt,?cnd⟩)
      (fun i Fq W'=>(J (S0+i) Fq W'∧Grows Fp3 Fq W3 W') ∧ ∀ b∈bs,¬ Fq b∧W'.heap[b]? = some (.deferred (some [])))
      (fun c Fq W'=>c=.ret∧(Jx Fq W'∧Grows Fp3 Fq W3 W') ∧ ∀ b∈bs,¬ Fq b∧W'.heap[b]? = some (.deferred (some [])))
      ?sI ?sX ⟨⟨HJ4.out,HT4.out⟩,fun b hb=>(HBS4.out.2 b hb).2.2⟩
      (fun x=>{ tmps:=#[Value.func (Fn.yield l) #[] #[],Value.pointer (some ⟨bt,0,none⟩),Value.pointer (some ⟨bi,0,none⟩),Value.pointer (some ⟨bl,0,none⟩),Value.pointer (some ⟨W.heap.size,0,none⟩),Value.pointer (some ⟨y.nb id,0,none⟩),Value.bool true,u7,Value.int .i64 k,Value.int .i64 x.1,Value.int .i64 x.2,Value.tuple #[Value.pointer (some ⟨y.nb id,0,none⟩),Value.bool true],Value.pointer (some ⟨t,0,none⟩),Value.pointer (some ⟨t,0,none⟩),Value.pointer (some ⟨t,0,none⟩),Value.map (some mb),Value.int .i64 id,Value.tuple #[Value.pointer (some ⟨y.nb id,0,none⟩),Value.bool true],Value.pointer (some ⟨y.nb id,0,none⟩),Value.bool true,Value.bool true,Value.bool false,Value.bool false,Value.func (Fn.yield l) #[] #[],Value.int .i64 id,Value.int .i64 lv,Value.bool true,Value.bool false,Value.bool false,Value.pointer (some ⟨y.nb id,0,none⟩),Value.pointer (some ⟨y.nb id,0,none⟩),Value.pointer (some ⟨y.nb id,7,none⟩),Value.slice (some ⟨gk,0,none⟩) m c,Value.int .i64 m,Value.int .i64 (j:Int),Value.bool true,Value.pointer (some ⟨gk,j,none⟩),Value.int .i64 k,Value.pointer (some ⟨t,0,none⟩),Value.int .i64 k,Value.int .i64 lv,Value.int .i64 (lv+1),Value.func (.func 72) #[] #[.pointer (some ⟨wr.heap.size,0,none⟩),.pointer (some ⟨wr.heap.size+1,0,none⟩),.pointer (some ⟨wr.heap.size+2,0,none⟩)],Value.int .i64 x.1,Value.int .i64 x.2,u45,u46,u47,u48,u49,u50],defers:=[] }) ?assign ?body ?done ?stop
     case dlt =>
      rcases hb with hb | rfl | rfl | rfl
      ·have:=HTR.out.lt hb;omega
      ·omega
      ·omega
      ·omega
     case clt=>have:=HFB.out b hb;omega
     case cnd =>
      have hlt':=HFB.out b hb
      rintro (hm' | rfl | rfl | rfl)
      ·exact HDF.out b hm' hb
      ·omega
      ·omega
      ·omega
     case sI =>
      rintro i Fq A' B' ⟨⟨q1,q2⟩,q3⟩ hAB;refine ⟨⟨HJ.out _ Fq A' B' q1 (hAB.mono fun b hb=>⟨by omega,hb.2⟩),zA1 q2 hsz4 hAB⟩,fun b hb=>⟨(q3 b hb).1,(hAB.block (Array.getElem?_eq_some_iff.1 (q3 b hb).2).1 (.inl (HBS4.out.2 b hb).2.1)).trans (q3 b hb).2⟩⟩
     case sX =>
      rintro c Fq A' B' ⟨q0,⟨q1,q2⟩,q3⟩ hAB;exact ⟨q0,⟨HJX.out Fq A' B' q1 (hAB.mono fun b hb=>⟨by omega,hb.2⟩),zA1 q2 hsz4 hAB⟩,fun b hb=>⟨(q3 b hb).1,(hAB.block (Array.getElem?_eq_some_iff.1 (q3 b hb).2).1 (.inl (HBS4.out.2 b hb).2.1)).trans (q3 b hb).2⟩⟩
     case assign =>
      intro l' x W' K hK
      dsimp only [encV]
      gi_wp2
      exact hK
     case body =>
      rintro l' i ⟨xi,xl⟩ Fq W' hx ⟨⟨q1,q2⟩,q3⟩ hW' hFq;have HQ2:=Lib.hid q2
      have HQ3:=Lib.hid q3
      have hYw:W'.heap[W.heap.size]? = some (.cells #[.func (.yield l) #[] #[]] 136 (0,0)):=(q2.1.block _ hsz3 (ND.out Fp3 HNB3.out _ hsz2 (.inr (.inr (.inr (.inr rfl)))))).trans HGY'.out
      have fy:=zAA hYw 0 _ rfl
      obtain ⟨fn',tmps',assign',body',hy',hR'⟩:=HY.out (S0+i) (xi,xl) Fq W' (by rw [← hS0.out];exact hget.out i _ hx) q1 (by omega) hFq
      dsimp only [encV] at hy'
      have HR':=Lib.hid hR'
      clear q1 q2 q3 hYw hR' hx;clear hFq
      gi_wp2
      refine ⟨fun h=>(by cases h),?_⟩
      refine (RoundIn.inR l' HR'.out).mono ?_
      rintro e W5 (⟨rfl,hL5⟩ | ⟨rfl,hL5⟩)
      ·have HL5:=Lib.hid hL5
       clear hL5
       gi_wp2
       obtain ⟨Fr,r1,r2,r3⟩:=HL5.out
       exact ⟨Fr,r1,r2,⟨r3,HQ2.out.trans r1⟩,zHp HQ3.out (fun b hb=>by have:=(HBS4.out.2 b hb).2.1;omega) r1⟩
      ·have HL5:=Lib.hid hL5
       clear hL5
       gi_wp2
       obtain ⟨Fr,r1,r2,r3⟩:=HL5.out
       exact ⟨Fr,r1,r2,rfl,⟨r3,HQ2.out.trans r1⟩,zHp HQ3.out (fun b hb=>by have:=(HBS4.out.2 b hb).2.1;omega) r1⟩
     case done =>
      rintro W5 ⟨Fq,r1,r2,⟨⟨q1,q2⟩,q3⟩,qn⟩ hK5;have HJ5:Hid (J (1+((ks.trees.take (j+1)).flatMap (visT (lv+1))).length) Fq W5):=by
       show J _ _ _
       rw [hlen.out,← Nat.add_assoc,hS0.out];exact q1
      have HT5:=Lib.hid q2
      have HR2:=Lib.hid r2
      have HBS5:Hid ((w4.heap.size :: bs).Nodup ∧ ∀ b∈w4.heap.size :: bs,W3.heap.size≤b ∧ ¬ Fq b∧W5.heap[b]? = some (.deferred (some []))):=by
       refine ⟨List.nodup_cons.2 ⟨fun hb=>?_,HBS4.out.1⟩,fun b hb=>?_⟩
       ·have:=(HBS4.out.2 _ hb).2.1;omega
       ·rcases List.mem_cons.1 hb with rfl | hb
        ·exact ⟨by omega,qn,hK5⟩
        ·exact ⟨(HBS4.out.2 b hb).1,q3 b hb⟩
      clear q1 q2 q3 hK5 r1 r2 qn
      gi_wp2
      exact ⟨⟨j+1,w4.heap.size :: bs,Fq,_,_,_,_,_,_,_,_,_,_,_,_,_,_,_,_,_,_,_,_,rfl,by omega,HJ5,HT5,HR2,HBS5⟩,by simp [intOf];omega⟩
     case stop =>
      rintro c W5 ⟨Fq,r1,r2,⟨rfl,⟨q1,q2⟩,q3⟩,qn⟩ hK5;have HBS5:Hid ((w4.heap.size :: bs).Nodup ∧ ∀ b∈w4.heap.size :: bs,W3.heap.size≤b ∧ ¬ Fq b∧W5.heap[b]? = some (.deferred (some []))):=by
       refine ⟨List.nodup_cons.2 ⟨fun hb=>?_,HBS4.out.1⟩,fun b hb=>?_⟩
       ·have:=(HBS4.out.2 _ hb).2.1;omega
       ·rcases List.mem_cons.1 hb with rfl | hb
        ·exact ⟨by omega,qn,hK5⟩
        ·exact ⟨(HBS4.out.2 b hb).1,q3 b hb⟩
      have HX5:=Lib.hid q1
      have HR1:=Lib.hid r1
      have HR2:=Lib.hid r2
      clear q1 q2 q3 hK5 r1 r2 qn
      gi_wp2
      refine zAO (w4.heap.size :: bs) W5 HBS5.out.1 (fun b hb=>(HBS5.out.2 b hb).2.2) (fun w' hw'=>⟨_,results_none rfl _ _ _,⟨_,rfl⟩,.inr ?_⟩)
      exact zAo (HALL4.out.trans HR1.out) HR2.out (fun b hb=>by have:=(HBS5.out.2 b hb).1;exact ⟨by omega,by omega⟩) (fun b hb=>(HBS5.out.2 b hb).2.1) hw' (HJX.out Fq) HX5.out
   ·have hjm:(m:Int)≤(j:Int):=by omega
    have hjm':j=m:=by omega
    have hfin:Hid (J (visT lv (id,d,ks)).length Fp wr):=by
     have e1:(visT lv (id,d,ks)).length=1+((ks.trees.take j).flatMap (visT (lv+1))).length:=by
      have h1:=congrArg List.length (zBA ks)
      rw [List.length_map,hm.out] at h1;rw [List.take_of_length_le (by omega),← zEX]
      simp only [visT,List.length_cons];omega
     show J _ _ _
     rw [e1];exact hJj.out
    clear same htr k1 k3 hYr
    gi_wp2
    refine zAO bs wr hbs.out.1 (fun b hb=>(hbs.out.2 b hb).2.2) (fun w' hw'=>⟨_,results_none rfl _ _ _,⟨_,rfl⟩,.inl ?_⟩)
    exact zAo HALL.out hBj.out (fun b hb=>by have:=(hbs.out.2 b hb).1;exact ⟨by omega,by omega⟩) (fun b hb=>(hbs.out.2 b hb).2.1) hw' (HJ.out _ Fp) hfin.out
 ·gi_wp2
  refine zAO [] W3 (by simp) (by simp) (fun w' hw'=>⟨_,results_none rfl _ _ _,⟨_,rfl⟩,.inr ?_⟩)
  exact zAo ((Grows.of_below HB2.out).trans hG3) hB3 (by simp) (by simp) hw' (HJX.out Fp3) hx3
end
section
open Go.RowKit Go.Shelf
attribute [local go_sem] Oper.semAt_some
theorem zCY {t mb:Nat} {y:Lay} {g:Int→Option Ent} {root next:Int} {n:Nat} (hwf:∀ id e,g id=some e→wfI id):∀ (f:Fo) (q lv:Int),Agr g q f→0≤lv→lv+f.cnt≤1000000 → ∀ (j:Nat) (id:Int) (d:NodeD) (ks:Fo),f.trees[j]? = some (id,d,ks) →
  ∀ (w:World) (bt bi bl:Nat),TreeAt w t mb y g root next n→w.heap[bt]? = some (.cells #[.pointer (some ⟨t,0,none⟩)] 24 (0,0))→w.heap[bi]? = some (.cells #[.int .i64 id] 3 (0,0))→w.heap[bl]? = some (.cells #[.int .i64 lv] 3 (0,0)) →
   IterG Tryz.prog 72 #[.pointer (some ⟨bt,0,none⟩),.pointer (some ⟨bi,0,none⟩),.pointer (some ⟨bl,0,none⟩)] encV (visT lv (id,d,ks)) (fun b=>Mine t mb y g b∨b=bt∨b=bi∨b=bl) w
 | .nil,q,lv,_,_,_,j,id,d,ks,h=>by simp [Fo.trees] at h
 | .cons id0 d0 ks0 r,q,lv,ha,h0,h1,0,id,d,ks,h=>by
  simp only [Fo.trees,List.getElem?_cons_zero,Option.some.injEq,Prod.mk.injEq] at h;obtain ⟨rfl,rfl,rfl⟩:=h
  simp only [Fo.cnt] at h1;exact zJw hwf q id0 lv d0 ks0 ha.1 ⟨h0,by omega⟩ (fun j k dk kk hk=>zCY hwf ks0 id0 (lv+1) ha.2.1 (by omega) (by omega) j k dk kk hk)
 | .cons id0 d0 ks0 r,q,lv,ha,h0,h1,j+1,id,d,ks,h=>by
  simp only [Fo.trees,List.getElem?_cons_succ] at h;simp only [Fo.cnt] at h1;exact zCY hwf r q lv ha.2.2 h0 (by omega) j id d ks h
theorem zJx {t mb:Nat} {y:Lay} {g:Int→Option Ent} {root next:Int} {n:Nat} (id:Int) (hw:wfI id) (hid:g id=none)
  (w:World) (bt bi bl:Nat) (ht:TreeAt w t mb y g root next n) (h1:w.heap[bt]? = some (.cells #[.pointer (some ⟨t,0,none⟩)] 24 (0,0))) (h2:w.heap[bi]? = some (.cells #[.int .i64 id] 3 (0,0))) :
  IterG Tryz.prog 72 #[.pointer (some ⟨bt,0,none⟩),.pointer (some ⟨bi,0,none⟩),.pointer (some ⟨bl,0,none⟩)] encV [] (fun b=>Mine t mb y g b∨b=bt∨b=bi∨b=bl) w:=by
 intro n0 l J Jx W Fp0 hD hsz hC hJ hJx hY h0;have HC:=Lib.hid hC
 have HJ:=Lib.hid hJ
 have H0:=Lib.hid h0
 have htW:TreeAt W t mb y g root next n:=ht.keep fun b hb=>(hD b (.inl hb)).2
 have g1:W.heap[bt]? = some (.cells #[.pointer (some ⟨t,0,none⟩)] 24 (0,0)):=(hD bt (.inr (.inl rfl))).2.trans h1
 have g2:W.heap[bi]? = some (.cells #[.int .i64 id] 3 (0,0)):=(hD bi (.inr (.inr (.inl rfl)))).2.trans h2
 obtain ⟨W1,hW1⟩:∃ W1,Hid (W1=W.alloc (.cells #[.func (.yield l) #[] #[]] 136)):=⟨_,rfl⟩
 have hb1:Below W.heap.size W W1:=by rw [hW1.out];exact (Below.refl _ W).alloc (Nat.le_refl _) _
 have ht1:TreeAt W1 t mb y g root next n:=htW.below hb1
 have k1:W1.heap[bt]? = some (.cells #[.pointer (some ⟨t,0,none⟩)] 24 (0,0)):=(hb1.block bt (Array.getElem?_eq_some_iff.1 g1).1).trans g1
 have k2:W1.heap[bi]? = some (.cells #[.int .i64 id] 3 (0,0)):=(hb1.block bi (Array.getElem?_eq_some_iff.1 g2).1).trans g2
 have HB1:=Lib.hid hb1
 have f1:=zAA k1 0 _ rfl
 have f2:=zAA k2 0 _ rfl
 have c0:=ht1.c0
 have hl:=fun (k:Nat)=>((ht1.keep (w':=W1.drewN k) (fun _ _=>rfl)).look_no hid hw).1
 clear hD hC hY ht h1 h2 htW g1 g2 hb1 ht1 k1 k2 hJ hJx h0;refine callsIn_of_wp_marks Tryz.func72 rfl trivial ?_ rfl
 simp only [Tryz.ntmps72,List.size_toArray,List.length_cons,List.length_nil,Nat.reduceAdd,Nat.reduceSub,Array.replicate_succ,Array.replicate_zero,List.push_toArray,List.append_toArray,List.nil_append,List.cons_append]
 gi_wp2
 refine wpIn_wide.2 ?_
 rw [← hW1.out]
 go_quiet (fail)
 obtain ⟨W2,hW2⟩:∃ W2,Hid (W1.drewN nq=W2):=⟨_,rfl⟩
 rw [hW2.out];have hb2:Below W.heap.size W W2:=by rw [← hW2.out];exact ⟨HB1.out.os,HB1.out.tape,HB1.out.output,HB1.out.size,HB1.out.block⟩
 have HB2:=Lib.hid hb2
 clear hl hb2 c0 f1 f2
 gi_wp2
 refine ⟨fun _ h=>(by cases h),?_⟩
 gi_wp2
 refine zAO [] W2 (by simp) (by simp) (fun w' hw'=>⟨_,results_none rfl _ _ _,⟨_,rfl⟩,.inl ?_⟩)
 exact zAo (Grows.of_below HB2.out) (fun b hb=>by have:=(HC.out b hb).1;have:=HB2.out.size;omega) (by simp) (by simp) hw' (HJ.out 0 Fp0) (HJ.out 0 Fp0 W W2 H0.out (Keep.of_below HB2.out))
end
section
open Go.RowKit
section
variable {w:World} {t mb:Nat} {y:Lay} {g:Int→Option Ent} {root next:Int} {n:Nat}
theorem TreeAt.turn_node (h:TreeAt w t mb y g root next n) {p:Int} {e:Ent} (he:g p=some e) (e':Ent) (a' k':Value) {w':World}
  (hsame:∀ b,b<w.heap.size→b≠y.nb p→(y.att p).ownBlock≠some b→(y.kid p).ownBlock≠some b→w'.heap[b]? = w.heap[b]?)
  (hnode:w'.heap[y.nb p]? = some (.cells (nodeC p e' a' k') 97 (0,0)))
  (hatt:attRow w' a' e'.d.attrs) (hkid:intRow w' k' e'.kids)
  (ha:∀ b,a'.ownBlock=some b→(y.att p).ownBlock=some b∨w.heap.size≤b) (hk:∀ b,k'.ownBlock=some b→(y.kid p).ownBlock=some b∨w.heap.size≤b) :
  TreeAt w' t mb { y with att:=fset y.att p a',kid:=fset y.kid p k' } (fset g p (some e')) root next n ∧
  (∀ b,Mine t mb { y with att:=fset y.att p a',kid:=fset y.kid p k' } (fset g p (some e')) b→Mine t mb y g b∨w.heap.size≤b):=by
 have hlt:=fun b hb=>h.lt (b:=b) hb
 have kt:w'.heap[t]? = w.heap[t]?:=by
  obtain ⟨_,h2⟩:=h.t_not
  obtain ⟨q1,q2,q3⟩:=h2 p e he
  exact hsame t (hlt t (.inl rfl)) q1 q2 q3
 have km:w'.heap[mb]? = w.heap[mb]?:=by
  obtain ⟨q1,q2,q3⟩:=h.mb_not p e he
  exact hsame mb (hlt mb (.inr (.inl rfl))) q1 q2 q3
 have kn:∀ id e0,g id=some e0→id≠p→w'.heap[y.nb id]? = w.heap[y.nb id]?:=fun id e0 h0 hne =>
  hsame _ (hlt _ (.inr (.inr ⟨id,e0,h0,.inl rfl⟩))) (h.apart id p e0 e h0 he hne).1 (h.nb_not h0 p e he).1 (h.nb_not h0 p e he).2
 have ka:∀ id e0,g id=some e0→id≠p → ∀ b,(y.att id).ownBlock=some b→w'.heap[b]? = w.heap[b]?:=fun id e0 h0 hne b hb=>by
  refine hsame b (hlt b (.inr (.inr ⟨id,e0,h0,.inr (.inl hb)⟩))) (fun e1=>(h.nb_not he id e0 h0).1 (e1 ▸ hb)) (fun e1=>?_) (h.rows_not id e0 p e h0 he b hb)
  rcases (h.apart id p e0 e h0 he hne).2.1 with q | q
  ·rw [q] at hb;cases hb
  ·exact q (hb.trans e1.symm)
 have kk:∀ id e0,g id=some e0→id≠p → ∀ b,(y.kid id).ownBlock=some b→w'.heap[b]? = w.heap[b]?:=fun id e0 h0 hne b hb=>by
  refine hsame b (hlt b (.inr (.inr ⟨id,e0,h0,.inr (.inr hb)⟩))) (fun e1=>(h.nb_not he id e0 h0).2 (e1 ▸ hb)) (fun e1=>h.rows_not p e id e0 he h0 b e1 hb) (fun e1=>?_)
  rcases (h.apart id p e0 e h0 he hne).2.2 with q | q
  ·rw [q] at hb;cases hb
  ·exact q (hb.trans e1.symm)
 have hgs:∀ id e0,fset g p (some e') id=some e0→(id=p∧e0=e')∨(id≠p∧g id=some e0):=fun id e0 h0=>by
  by_cases hid:id=p
  ·subst hid;rw [zAN] at h0;injection h0 with h0;exact .inl ⟨rfl,h0.symm⟩
  ·rw [zAQ _ _ hid] at h0;exact .inr ⟨hid,h0⟩
 have aap:∀ (v':Value) (f:Int→Value) (hf:∀ id e0,g id=some e0 → ∀ b,(f id).ownBlock=some b→b<w.heap.size) (hv:∀ b,v'.ownBlock=some b→(f p).ownBlock=some b∨w.heap.size≤b) (id:Int) (e0:Ent) (h0:g id=some e0) (hap:Apart (f p) (f id)),Apart v' (f id):=by
  intro v' f hf hv id e0 h0 hap;cases hvb:v'.ownBlock with
  | none=>exact .inl hvb
  | some b =>
   refine .inr (fun hh=>?_)
   rw [hvb] at hh;have hlt':=hf id e0 h0 b hh.symm
   rcases hv b hvb with q | q
   ·rcases hap with q2 | q2
    ·rw [q2] at q;cases q
    ·exact q2 (q.trans hh)
   ·omega
 have swap:∀ {v v':Value},Apart v v'→Apart v' v:=fun {v v'} hh=>by
  cases hv':v'.ownBlock with
  | none=>exact .inl hv'
  | some b =>
   refine .inr (fun e1=>?_)
   rcases hh with q | q
   ·rw [q] at e1;rw [hv'] at e1;cases e1
   ·exact q e1.symm
 have fa:∀ id e0,g id=some e0 → ∀ b,(y.att id).ownBlock=some b→b<w.heap.size:=fun id e0 h0 b hb=>hlt b (.inr (.inr ⟨id,e0,h0,.inr (.inl hb)⟩))
 have fk:∀ id e0,g id=some e0 → ∀ b,(y.kid id).ownBlock=some b→b<w.heap.size:=fun id e0 h0 b hb=>hlt b (.inr (.inr ⟨id,e0,h0,.inr (.inr hb)⟩))
 refine ⟨⟨kt.trans h.tree,?_,?_,?_,?_,?_⟩,?_⟩
 ·have:=h.map.keep km
  refine (congrArg (fun f=>MapG w' mb f n) (funext fun id=>?_)).mp this
  by_cases hid:id=p
  ·subst hid;rw [zAN,he];rfl
  ·rw [zAQ _ _ hid]
 ·intro id e0 h0
  rcases hgs id e0 h0 with ⟨rfl,rfl⟩ | ⟨hid,h1⟩
  ·simp only [zAN];exact hnode
  ·simp only [zAQ _ _ hid]
   rw [kn id e0 h1 hid];exact h.node id e0 h1
 ·intro id e0 h0
  rcases hgs id e0 h0 with ⟨rfl,rfl⟩ | ⟨hid,h1⟩
  ·simp only [zAN];exact hatt
  ·simp only [zAQ _ _ hid]
   exact zAC (h.att id e0 h1) (ka id e0 h1 hid)
 ·intro id e0 h0
  rcases hgs id e0 h0 with ⟨rfl,rfl⟩ | ⟨hid,h1⟩
  ·simp only [zAN];exact hkid
  ·simp only [zAQ _ _ hid]
   exact zAC (h.kid id e0 h1) (kk id e0 h1 hid)
 ·intro id id' e0 e1 h0 h1 hne
  rcases hgs id e0 h0 with ⟨rfl,rfl⟩ | ⟨hid,h0'⟩
  ·rcases hgs id' e1 h1 with ⟨rfl,rfl⟩ | ⟨hid',h1'⟩
   ·exact absurd rfl hne
   ·simp only [zAN,zAQ _ _ hid']
    have q:=h.apart id id' e e1 he h1' hne
    exact ⟨q.1,aap a' y.att fa ha id' e1 h1' q.2.1,aap k' y.kid fk hk id' e1 h1' q.2.2⟩
  ·rcases hgs id' e1 h1 with ⟨rfl,rfl⟩ | ⟨hid',h1'⟩
   ·simp only [zAN,zAQ _ _ hid]
    have q:=h.apart id' id e e0 he h0' (Ne.symm hne)
    exact ⟨Ne.symm q.1,swap (aap a' y.att fa ha id e0 h0' q.2.1),swap (aap k' y.kid fk hk id e0 h0' q.2.2)⟩
   ·simp only [zAQ _ _ hid,zAQ _ _ hid']
    exact h.apart id id' e0 e1 h0' h1' hne
 ·intro b hb
  rcases hb with rfl | rfl | ⟨id,e0,h0,hb⟩
  ·exact .inl (.inl rfl)
  ·exact .inl (.inr (.inl rfl))
  ·rcases hgs id e0 h0 with ⟨rfl,rfl⟩ | ⟨hid,h1⟩
   ·simp only [zAN] at hb
    rcases hb with rfl | hb | hb
    ·exact .inl (.inr (.inr ⟨_,e,he,.inl rfl⟩))
    ·rcases ha b hb with q | q
     ·exact .inl (.inr (.inr ⟨_,e,he,.inr (.inl q)⟩))
     ·exact .inr q
    ·rcases hk b hb with q | q
     ·exact .inl (.inr (.inr ⟨_,e,he,.inr (.inr q)⟩))
     ·exact .inr q
   ·simp only [zAQ _ _ hid] at hb
    exact .inl (.inr (.inr ⟨id,e0,h1,hb⟩))
theorem TreeAt.add (h:TreeAt w t mb y g root next n) {p:Int} (hp:g p=none) (e:Ent) (hek:e.kids=[]) (q:Nat) (a:Value) {w1 w2:World} (hb:Below w.heap.size w w1)
  (hq:w.heap.size≤q) (hnode:w1.heap[q]? = some (.cells (nodeC p e a (.slice none 0 0)) 97 (0,0))) (hatt:attRow w1 a e.d.attrs) (ha:∀ b,a.ownBlock=some b→w.heap.size≤b)
  (hmap:MapG w2 mb (fset (fun id=>(g id).map fun _=>y.nb id) p (some q)) (n+1)) (hg:w1.grownBy w2 (some mb)) :
  TreeAt w2 t mb { nb:=fset y.nb p q,att:=fset y.att p a,kid:=fset y.kid p (.slice none 0 0) } (fset g p (some e)) root next (n+1) ∧
  (∀ b,Mine t mb { nb:=fset y.nb p q,att:=fset y.att p a,kid:=fset y.kid p (.slice none 0 0) } (fset g p (some e)) b→Mine t mb y g b∨w.heap.size≤b):=by
 have h1:TreeAt w1 t mb y g root next n:=h.below hb
 have hlt:=fun b hb=>h1.lt (b:=b) hb
 have same:∀ b,b<w1.heap.size→b≠mb→w2.heap[b]? = w1.heap[b]?:=fun b h0 hne=>hg.block b h0 (fun e0=>hne (by injection e0))
 have hgs:∀ id e0,fset g p (some e) id=some e0→(id=p∧e0=e)∨(id≠p∧g id=some e0):=fun id e0 h0=>by
  by_cases hid:id=p
  ·subst hid;rw [zAN] at h0;injection h0 with h0;exact .inl ⟨rfl,h0.symm⟩
  ·rw [zAQ _ _ hid] at h0;exact .inr ⟨hid,h0⟩
 have hqm:q≠mb:=fun e0=>by have:=h.map.lt;omega
 have hrow:∀ {B:Nat} {ty:TypeId} {size:Nat} {v:Value} {m:Nat} {xs:List Value},w1.ownsRow B ty size v m xs→w2.ownsRow B ty size v m xs:=fun {B ty size v m xs} hr =>
  zAC hr fun b hb0=>same b (zAJ hr hb0) (fun e0=>by
   obtain ⟨es,clock,ho⟩:=h1.map.obj
   exact zAT hr (e0 ▸ ho) (fun _ hc=>by cases hc) hb0)
 have old:∀ id e0,g id=some e0→y.nb id<w.heap.size∧(∀ b,(y.att id).ownBlock=some b→b<w.heap.size):=fun id e0 h0 =>
  ⟨h.lt (.inr (.inr ⟨id,e0,h0,.inl rfl⟩)),fun b hb0=>h.lt (.inr (.inr ⟨id,e0,h0,.inr (.inl hb0)⟩))⟩
 refine ⟨⟨?_,?_,?_,?_,?_,?_⟩,?_⟩
 ·rw [same t (hlt t (.inl rfl)) h.t_not.1];exact h1.tree
 ·refine (congrArg (fun f=>MapG w2 mb f (n+1)) (funext fun id=>?_)).mp hmap
  by_cases hid:id=p
  ·subst hid;simp only [zAN];rfl
  ·simp only [zAQ _ _ hid]
 ·intro id e0 h0
  rcases hgs id e0 h0 with ⟨rfl,rfl⟩ | ⟨hid,h0'⟩
  ·simp only [zAN]
   rw [same q (Array.getElem?_eq_some_iff.1 hnode).1 hqm];exact hnode
  ·simp only [zAQ _ _ hid]
   rw [same _ (hlt _ (.inr (.inr ⟨id,e0,h0',.inl rfl⟩))) (Ne.symm (h1.mb_not id e0 h0').1)];exact h1.node id e0 h0'
 ·intro id e0 h0
  rcases hgs id e0 h0 with ⟨rfl,rfl⟩ | ⟨hid,h0'⟩
  ·simp only [zAN];exact hrow hatt
  ·simp only [zAQ _ _ hid];exact hrow (h1.att id e0 h0')
 ·intro id e0 h0
  rcases hgs id e0 h0 with ⟨rfl,rfl⟩ | ⟨hid,h0'⟩
  ·simp only [zAN]
   unfold intRow;rw [hek];exact World.ownsRow_nil _ _ _ _
  ·simp only [zAQ _ _ hid];exact hrow (h1.kid id e0 h0')
 ·intro id id' e0 e1 h0 h1' hne
  rcases hgs id e0 h0 with ⟨rfl,rfl⟩ | ⟨hid,h0'⟩
  ·rcases hgs id' e1 h1' with ⟨rfl,rfl⟩ | ⟨hid',h1''⟩
   ·exact absurd rfl hne
   ·simp only [zAN,zAQ _ _ hid']
    obtain ⟨o1,o2⟩:=old id' e1 h1''
    refine ⟨by omega,?_,.inl rfl⟩
    cases hab:a.ownBlock with
    | none=>exact .inl hab
    | some b=>exact .inr (fun e2=>by have:=ha b hab;rw [hab] at e2;have:=o2 b e2.symm;omega)
  ·rcases hgs id' e1 h1' with ⟨rfl,rfl⟩ | ⟨hid',h1''⟩
   ·simp only [zAN,zAQ _ _ hid]
    obtain ⟨o1,o2⟩:=old id e0 h0'
    refine ⟨by omega,?_,?_⟩
    ·cases hab:(y.att id).ownBlock with
     | none=>exact .inl hab
     | some b=>exact .inr (fun e2=>by rw [hab] at e2;have:=ha b e2.symm;have:=o2 b hab;omega)
    ·cases hab:(y.kid id).ownBlock with
     | none=>exact .inl hab
     | some b=>exact .inr (fun e2=>by rw [hab] at e2;cases e2)
   ·simp only [zAQ _ _ hid,zAQ _ _ hid']
    exact h.apart id id' e0 e1 h0' h1'' hne
 ·intro b hb0
  rcases hb0 with rfl | rfl | ⟨id,e0,h0,hb0⟩
  ·exact .inl (.inl rfl)
  ·exact .inl (.inr (.inl rfl))
  ·rcases hgs id e0 h0 with ⟨rfl,rfl⟩ | ⟨hid,h0'⟩
   ·simp only [zAN] at hb0
    rcases hb0 with rfl | hb0 | hb0
    ·exact .inr hq
    ·exact .inr (ha b hb0)
    ·cases hb0
   ·simp only [zAQ _ _ hid] at hb0
    exact .inl (.inr (.inr ⟨id,e0,h0',hb0⟩))
theorem TreeAt.set_root (h:TreeAt w t mb y g root next n) (r:Int):TreeAt (w.setCell ⟨t,1,none⟩ (.int .i64 r)) t mb y g r next n:=by
 have same:∀ b,b≠t→(w.setCell ⟨t,1,none⟩ (.int .i64 r)).heap[b]? = w.heap[b]?:=fun b hne=>Below.heap_setCell w _ _ b hne
 obtain ⟨q1,q2⟩:=h.t_not
 refine ⟨Lib.heap_setCell_same (i:=1) h.tree _,h.map.keep (same mb (Ne.symm q1)),fun id e he=>?_,fun id e he=>zAC (h.att id e he) fun b hb=>same b (fun e0=>(q2 id e he).2.1 (e0 ▸ hb)),fun id e he=>zAC (h.kid id e he) fun b hb=>same b (fun e0=>(q2 id e he).2.2 (e0 ▸ hb)),h.apart⟩
 rw [same _ (Ne.symm (q2 id e he).1)];exact h.node id e he
theorem TreeAt.set_next (h:TreeAt w t mb y g root next n) (r:Int):TreeAt (w.setCell ⟨t,2,none⟩ (.int .i64 r)) t mb y g root r n:=by
 have same:∀ b,b≠t→(w.setCell ⟨t,2,none⟩ (.int .i64 r)).heap[b]? = w.heap[b]?:=fun b hne=>Below.heap_setCell w _ _ b hne
 obtain ⟨q1,q2⟩:=h.t_not
 refine ⟨Lib.heap_setCell_same (i:=2) h.tree _,h.map.keep (same mb (Ne.symm q1)),fun id e he=>?_,fun id e he=>zAC (h.att id e he) fun b hb=>same b (fun e0=>(q2 id e he).2.1 (e0 ▸ hb)),fun id e he=>zAC (h.kid id e he) fun b hb=>same b (fun e0=>(q2 id e he).2.2 (e0 ▸ hb)),h.apart⟩
 rw [same _ (Ne.symm (q2 id e he).1)];exact h.node id e he
end
end
section
open Go.RowKit Go.Lib
def RowPost (w:World) (v:Value) (R:World→Value→Prop) (e:Ending) (w':World):Prop :=
 ∃ v',e=.returned v'∧R w' v'∧w.grownBy w' v.ownBlock ∧ ∀ b,v'.ownBlock=some b→v.ownBlock=some b∨w.heap.size≤b
section
variable {P:Program} (w:World)
theorem zAy (t ty e:TypeId) (z:Value) (size bytes:Nat) (ht:P.underlying t=some (.slice e)) (hi:(P.info? e).map (fun i=>(i.zero,i.size,i.bytes))=some (some z,size,bytes))
  (hzs:z.cells.size=size) (hsz:0<size) (hby:bytes≤10000)
  (v:Value) (n:Nat) (xs:List Value) (hown:w.ownsRow 0 e size v n xs) (a:Addr) (m c:Nat) (news:List Value) (hm:0<m) (hl:news.length=m * size) (hnews:∀ j u,news[j]? = some u→w.cell? (a.add j)=some u) (h1:∀ u∈news,u.oneCell'=true)
  (hb1:n≤1000000000) (hb2:m≤1000000000) :
  ∃ v' w',(Builtin.append_ #[t,t] ty #[v,.slice (some a) m c]).run P w=.ok v' w'∧w'.ownsRow 0 e size v' (n+m) (xs++news)∧w.grownBy w' v.ownBlock ∧ ∀ b,v'.ownBlock=some b→v.ownBlock=some b∨w.heap.size≤b:=by
 obtain ⟨i0,hi0,hz0,hz1,hz2⟩:=info_parts hi
 have hbytes:(n+m) * bytes≤140737488355328:=by
  have:(n+m) * bytes≤2000000000 * 10000:=Nat.mul_le_mul (by omega) hby
  omega
 obtain ⟨v',w',hr,h2,h3,_⟩:=run_append_own (P:=P) w 0 t ty e i0 z size bytes ht hi0 hz0 hz1 hz2 hzs hsz v n xs hown a m c news hl hnews h1 (by unfold maxLen;omega) hbytes (Nat.zero_le _)
 refine ⟨v',w',hr,h2,h3,?_⟩
 rcases hown.2 with ⟨rfl,rfl⟩ | ⟨g,cap,cur,rfl,hbg,hg,hnc,hcm,hcs,htake⟩
 ·have hr2:=run_append_nil (P:=P) w t ty e i0 z ht hi0 hz0 a m c news (by rw [hz1];exact hl) hnews hm (by omega) (by rw [hz2];have:=hbytes;simp only [Nat.zero_add] at this;omega)
  rw [hr] at hr2
  injection hr2 with hr2 _
  subst hr2;intro b hb
  injection hb with hb
  exact .inr (Nat.le_of_eq hb)
 ·by_cases hroom:n+m≤cap
  ·have hr2:=run_append_room (P:=P) w t ty e i0 ht hi0 g n cap cur hg a m c news (by rw [hz1];exact hl) hnews h1 hroom (by rw [hz1,hl,hcs,← Nat.add_mul];exact Nat.mul_le_mul_right _ hroom)
   rw [hr] at hr2
   injection hr2 with hr2 _
   subst hr2;intro b hb;exact .inl hb
  ·have holds:∀ j u,xs[j]? = some u→w.cell? ((⟨g,0,none⟩:Addr).add j)=some u:=hown.cells (g:=g) rfl
   have hr2:=run_append_grow (P:=P) w t ty e i0 z ht hi0 hz0 ⟨g,0,none⟩ n cap xs (by rw [hz1];exact hown.1) holds a m c news (by rw [hz1];exact hl) hnews (by omega) (by omega) (by rw [hz2];exact growslice_fits (by omega) hbytes)
   rw [hr] at hr2
   injection hr2 with hr2 _
   subst hr2;intro b hb
   injection hb with hb
   exact .inr (Nat.le_of_eq hb)
theorem zC8 (dT sT ty elem:TypeId) (sz g o dLen dCap:Nat) (a:Addr) (sLen sCap:Nat) (cur:Array Value) (t:TypeId) (n:Nat) (cs:List Value)
  (hu:P.underlying dT=some (.slice elem)) (hs:(P.info? elem).map (·.size)=some sz)
  (hg:w.heap[g]? = some (.cells cur t (0,0))) (hn:n=Nat.min sLen dLen) (hl:cs.length=n * sz)
  (hsrc:∀ j v,cs[j]? = some v→w.cell? (a.add j)=some v) (hfit:o+cs.length≤cur.size) (h1:∀ v∈cs,v.oneCell'=true) :
  (Builtin.copy_ #[dT,sT] ty #[.slice (some ⟨g,o,none⟩) dLen dCap,.slice (some a) sLen sCap]).run P w =
   .ok (goInt n) (w.setRow g (cur.toList.take o++cs++cur.toList.drop (o+cs.length)).toArray):=by
 have hld:=run_loadCells_list (P:=P) w a cs hsrc
 have hst:=run_storeCells_at P g o t cs 0 cur w hg (by simpa using hfit) h1
 cases hq:P.info? elem with
 | none=>simp [hq] at hs
 | some i =>
  have hi:i.size=sz:=by simpa [hq] using hs
  simp [Builtin.copy_,run_underlying hu,Builtin.lenOf,Builtin.firstCells,sizeOf,typeInfo,hq,hi,← hn,← hl,hld,hst]
end
theorem zE9 {w:World} {e:TypeId} {size g n c:Nat} {cur:Array Value} {xs:List Value} (hg:w.heap[g]? = some (.cells cur e (0,0))) (hnc:n≤c) (hcm:c≤maxLen) (hcs:cur.size=c * size) (hx:cur.toList.take (n * size)=xs):w.ownsRow 0 e size (.slice (some ⟨g,0,none⟩) n c) n xs:=by
 refine ⟨?_,.inr ⟨g,c,cur,rfl,Nat.zero_le _,hg,hnc,hcm,hcs,hx⟩⟩
 rw [← hx,List.length_take,Array.length_toList,hcs];exact Nat.min_eq_left (Nat.mul_le_mul_right _ hnc)
end
section
open Go.RowKit Go.Lib
theorem zBf:(Tryz.prog.info? 3).map (fun i=>(i.zero,i.size,i.bytes))=some (some (.int .i64 0),1,8):=by kernel_rfl
theorem zHB (v:Value) (xs:List Value) (n:Nat) (u:Value) (X:Nat) (w:World) (hrow:w.ownsRow 0 3 1 v n xs) (hX:w.heap[X]? = some (.cells #[u] 3 (0,0))) (hu:u.oneCell'=true) (hn:n≤1000000) :
  Calls Tryz.prog 51 #[v,.int .i64 n,.slice (some ⟨X,0,none⟩) 1 1] w (RowPost w v fun w' v'=>w'.ownsRow 0 3 1 v' (n+1) (xs++[u])):=by
 obtain ⟨v',w',hr,hrow',hg',hf'⟩:=zAy (P:=Tryz.prog) w 32 32 3 (.int .i64 0) 1 8 Tryz.underlying32 zBf rfl (by decide) (by decide) v n xs hrow ⟨X,0,none⟩ 1 1 [u] (by decide) rfl (by
  intro j u0 hj;rw [zAI];cases j with
  | zero=>simp at hj;subst hj;exact zAA hX 0 _ rfl
  | succ j=>simp at hj) (by simpa using hu) (by omega) (by decide)
 obtain ⟨A,c,rfl,hnc,hcm,hA0,hA1⟩:=zAR hrow
 have HPOST:Hid (RowPost w (.slice A n c) (fun w' v'=>w'.ownsRow 0 3 1 v' (n+1) (xs++[u])) (.returned v') w'):=⟨v',rfl,hrow',hg',hf'⟩
 unfold maxLen at hcm;have hnc':(n:Int)≤c:=by omega
 clear hrow hX hu hrow' hg' hf';cases A with
 | none =>
  obtain ⟨rfl,rfl⟩:=hA0 rfl
  clear hA0 hA1
  go_enter Tryz.func51,Tryz.ntmps51
  go_wp2_with (at_builtin;refine wpList_append_run _ rfl (.tmp 23) (.tmp 24) 32 32 rfl _ _ rfl rfl _ _ hr ?_)
  go_ret;exact HPOST.out
 | some ad =>
  obtain ⟨g,rfl,_⟩:=hA1 ad rfl
  clear hA0 hA1;by_cases hc:c=n
  ·subst hc
   go_enter Tryz.func51,Tryz.ntmps51
   go_wp2_with (at_builtin;refine wpList_append_run _ rfl (.tmp 23) (.tmp 24) 32 32 rfl _ _ rfl rfl _ _ hr ?_)
   go_ret;exact HPOST.out
  ·go_enter Tryz.func51,Tryz.ntmps51
   go_wp2_with (at_builtin;refine wpList_append_run _ rfl (.tmp 23) (.tmp 24) 32 32 rfl _ _ rfl rfl _ _ hr ?_)
   go_ret;exact HPOST.out
theorem zKy {α:Type} (l us:List α) (a b N:Nat) (hb:us.length=b) (ha:a≤N) (hN:N+b≤l.length) (c1:List α) (hc:c1=l.take (a+b)++(l.take N).drop a++l.drop (a+b+((l.take N).drop a).length)) :
  (c1.take a++us++c1.drop (a+us.length)).take (N+b)=(l.take N).take a++us++(l.take N).drop a:=by
 have h1:c1.take a=(l.take N).take a:=by
  rw [hc,List.append_assoc,List.take_append_of_le_length (by rw [List.length_take];omega),List.take_take,List.take_take]
  congr 1;omega
 have h2:c1.drop (a+us.length)=(l.take N).drop a++l.drop (a+b+((l.take N).drop a).length):=by
  rw [hc,List.append_assoc,hb,List.drop_append_of_le_length (by rw [List.length_take];omega),List.drop_eq_nil_of_le (by rw [List.length_take];omega),List.nil_append]
 rw [h1,h2,← List.append_assoc,List.take_append_of_le_length (by
  simp only [List.length_append,List.length_take,List.length_drop];omega)]
 refine List.take_of_length_le ?_
 simp only [List.length_append,List.length_take,List.length_drop];omega
theorem zGL (g c k n:Nat) (cur:Array Value) (xs:List Value) (u:Value) (X:Nat) (w:World) (hg:w.heap[g]? = some (.cells cur 3 (0,0))) (hcs:cur.size=c * 1) (hx:cur.toList.take (n * 1)=xs) (h1:∀ v∈xs,v.oneCell'=true)
  (hX:w.heap[X]? = some (.cells #[u] 3 (0,0))) (hu:u.oneCell'=true) (hne:X≠g) (hn:n≤1000000) (hk:k<n) (hroom:n+1≤c) (hcm:c≤maxLen) :
  Calls Tryz.prog 51 #[.slice (some ⟨g,0,none⟩) n c,.int .i64 k,.slice (some ⟨X,0,none⟩) 1 1] w (RowPost w (.slice (some ⟨g,0,none⟩) n c) fun w' v'=>w'.ownsRow 0 3 1 v' (n+1) (xs.take k++u :: xs.drop k)):=by
 have hov:∀ o lb cb,(callFunc 73 #[.slice (some ⟨X,0,none⟩) 1 1,.slice (some ⟨g,o,none⟩) lb cb]).run Tryz.prog w=.ok (.value (.bool false)) w:=fun o lb cb=>by
  rw [run_callFunc_extern Tryz.func73 (by kernel_rfl) (by kernel_rfl) (by kernel_rfl) (e:=Extern.SlicesOverlaps.overlaps #[32,32] #[4]) (by kernel_rfl),
   Lib.run_overlaps_apart w 32 4 3 Tryz.underlying32 1 Tryz.sizeOf3 ⟨X,0,none⟩ ⟨g,o,none⟩ 1 1 lb cb hne 3 3 1 cur.size (by simp [World.shape?,hX]) (by simp [World.shape?,hg]) (by omega) (zAV hX 0) (zAV hX 1)]
  rfl
 have hsz:(Tryz.prog.info? 3).map (·.size)=some 1:=by
  obtain ⟨i0,hi0,h0,h1,h2⟩:=info_parts zBf
  rw [hi0];simp [h1]
 have hxl:xs.length=n:=by rw [← hx,List.length_take,Array.length_toList,hcs];omega
 have hcur:∀ j v,xs[j]? = some v→w.cell? ⟨g,j,none⟩=some v:=fun j v hj=>by
  have:cur[j]? = some v:=by
   rw [← hx,List.getElem?_take] at hj
   split at hj
   ·simpa using hj
   ·cases hj
  simp [World.cell?,hg,this]
 obtain ⟨cur1,hcur1⟩:∃ cur1:Array Value,cur1=(cur.toList.take (k+1)++xs.drop k++cur.toList.drop (k+1+(xs.drop k).length)).toArray:=⟨_,rfl⟩
 have hc1s:cur1.size=c:=by rw [hcur1];simp only [List.size_toArray,List.length_append,List.length_take,List.length_drop,Array.length_toList];omega
 have hcp1:∀ ty dc sc,(Builtin.copy_ #[32,32] ty #[.slice (some ⟨g,k+1,none⟩) (n-k) dc,.slice (some ⟨g,k,none⟩) (n+1-k) sc]).run Tryz.prog w.drew=.ok (goInt (n-k:Nat)) (w.drew.setRow g cur1):=fun ty dc sc=>by
  rw [hcur1];exact zC8 w.drew _ _ ty 3 1 g (k+1) _ _ ⟨g,k,none⟩ _ _ cur 3 (n-k) (xs.drop k) Tryz.underlying32 hsz hg (by simp only [Nat.min_def];split <;> omega) (by rw [List.length_drop];omega)
   (fun j v hj=>by rw [Addr.add_lit];exact hcur (k+j) v (by rwa [List.getElem?_drop] at hj)) (by rw [List.length_drop];omega) (fun v hv=>h1 v (List.mem_of_mem_drop hv))
 obtain ⟨W1,hW1⟩:∃ W1,W1=w.drew.setRow g cur1:=⟨_,rfl⟩
 have hg1:W1.heap[g]? = some (.cells cur1 3 (0,0)):=by rw [hW1];exact setRow_heap w.drew g cur cur1 _ _ hg
 have hX1:W1.heap[X]? = some (.cells #[u] 3 (0,0)):=by rw [hW1,setRow_other w.drew g X _ hne];exact hX
 obtain ⟨cur2,hcur2⟩:∃ cur2:Array Value,cur2=(cur1.toList.take k++[u]++cur1.toList.drop (k+1)).toArray:=⟨_,rfl⟩
 have hcp2:∀ ty dc,(Builtin.copy_ #[32,32] ty #[.slice (some ⟨g,k,none⟩) (n+1-k) dc,.slice (some ⟨X,0,none⟩) 1 1]).run Tryz.prog W1=.ok (goInt 1) (W1.setRow g cur2):=fun ty dc=>by
  rw [hcur2];exact zC8 W1 _ _ ty 3 1 g k _ _ ⟨X,0,none⟩ _ _ cur1 3 1 [u] Tryz.underlying32 hsz hg1 (by simp only [Nat.min_def];split <;> omega) rfl
   (fun j v hj=>by
    rw [Addr.add_lit];cases j with
    | zero=>simp at hj;subst hj;exact zAA hX1 0 _ rfl
    | succ j=>simp at hj) (by simp only [List.length_singleton];omega) (by simpa using hu)
 obtain ⟨W2,hW2⟩:∃ W2,W2=W1.setRow g cur2:=⟨_,rfl⟩
 have hg2:W2.heap[g]? = some (.cells cur2 3 (0,0)):=by rw [hW2];exact setRow_heap W1 g cur1 cur2 _ _ hg1
 rw [← hW2] at hcp2;rw [← hW1] at hcp1;have hgr:w.grownBy W2 (some g):=by
  rw [hW2,hW1];refine ⟨rfl,rfl,rfl,by simp,fun j hj hne'=>?_⟩
  have hne2:j≠g:=fun e=>hne' (by rw [e])
  rw [setRow_other _ g j _ hne2,setRow_other _ g j _ hne2];rfl
 have hrow2:W2.ownsRow 0 3 1 (.slice (some ⟨g,0,none⟩) (n+1) c) (n+1) (xs.take k++u :: xs.drop k):=by
  refine zE9 hg2 hroom hcm ?_ ?_
  ·rw [hcur2];simp only [List.size_toArray,List.length_append,List.length_take,List.length_drop,Array.length_toList,List.length_singleton];omega
  ·have:=zKy cur.toList [u] k 1 n rfl (by omega) (by rw [Array.length_toList];omega) cur1.toList (by rw [hcur1];simp only [Nat.mul_one] at hx;rw [hx])
   rw [hcur2];simp only [Nat.mul_one] at hx ⊢;rw [hx] at this
   simpa using this
 have HPOST:Hid (RowPost w (.slice (some ⟨g,0,none⟩) n c) (fun w' v'=>w'.ownsRow 0 3 1 v' (n+1) (xs.take k++u :: xs.drop k)) (.returned (.slice (some ⟨g,0,none⟩) (n+1) c)) W2):=⟨_,rfl,hrow2,hgr,fun b hb=>.inl hb⟩
 have hk1:(k:Int)<n:=by omega
 have hk0:(0:Int)≤k:=by omega
 have hnk:((k:Int) == (n:Int))=false:=by simp;omega
 have hroom':(n:Int)+1≤c:=by omega
 unfold maxLen at hcm;have hcn1:¬ (c=k):=by omega
 have hcn2:¬ (c=k+1):=by omega
 have hw1:IntKind.i64.wrap ((k:Int)+1)=(k:Int)+1:=by rw [IntKind.wrap_i64];omega
 have htn:((k:Int)+1).toNat=k+1:=by omega
 have htn2:((n:Int)+1).toNat=n+1:=by omega
 have hb0:(0:Int)≤(k:Int)+1:=by omega
 have hb1:(k:Int)+1≤(n:Int)+1:=by omega
 have hb2:(k:Int)≤(n:Int)+1:=by omega
 clear hgr hrow2 hg2 hg1 hX1 hg hX hcs hx h1 hu hcur hxl hc1s hcur1 hcur2 hW1 hW2
 go_enter Tryz.func51,Tryz.ntmps51
 go_wp2_with (simp only [hov])
 go_region_law (refine Go.Proofs.step_copy_runI rfl _ _ 32 32 rfl _ _ (by simp [Act.eval,Act.put]) (by simp [Act.eval,Act.put]) (hcp1 _ _ _) ?_)
 go_wp2_with (at_builtin;refine Go.Proofs.wpList_copy_runI _ rfl _ _ 32 32 rfl _ _ rfl rfl (hcp2 _ _) ?_)
 go_ret;exact HPOST.out
theorem zJf {α:Type} (ks us xs:List α) (a b N:Nat) (hb:us.length=b) (hk:ks=xs.take a) (ha:a≤N) (hN:xs.length=N) (row c1 c2:List α) (hrow:row.take a=ks)
  (h1:c1=row.take a++us++row.drop (a+us.length)) (h2:c2=c1.take (a+b)++xs.drop a++c1.drop (a+b+(xs.drop a).length)):c2.take (N+b)=xs.take a++us++xs.drop a:=by
 have e1:c1.take (a+b)=xs.take a++us:=by
  rw [h1,hrow,hk];rw [List.take_append_of_le_length (by simp only [List.length_append,List.length_take];omega)]
  exact List.take_of_length_le (by simp only [List.length_append,List.length_take];omega)
 rw [h2,e1,List.take_append_of_le_length (by simp only [List.length_append,List.length_take,List.length_drop];omega)]
 exact List.take_of_length_le (by simp only [List.length_append,List.length_take,List.length_drop];omega)
theorem zGK (g c k n:Nat) (cur:Array Value) (xs:List Value) (u:Value) (X:Nat) (w:World) (hg:w.heap[g]? = some (.cells cur 3 (0,0))) (hcs:cur.size=c * 1) (hx:cur.toList.take (n * 1)=xs) (h1:∀ v∈xs,v.oneCell'=true)
  (hX:w.heap[X]? = some (.cells #[u] 3 (0,0))) (hu:u.oneCell'=true) (hn:n≤1000000) (hk:k<n) (hnc:n≤c) (hroom:c<n+1) :
  Calls Tryz.prog 51 #[.slice (some ⟨g,0,none⟩) n c,.int .i64 k,.slice (some ⟨X,0,none⟩) 1 1] w (RowPost w (.slice (some ⟨g,0,none⟩) n c) fun w' v'=>w'.ownsRow 0 3 1 v' (n+1) (xs.take k++u :: xs.drop k)):=by
 obtain ⟨i0,hi0,hz0,hzs,hzb⟩:=info_parts zBf
 have hsz:(Tryz.prog.info? 3).map (·.size)=some 1:=by rw [hi0];simp [hzs]
 have hxl:xs.length=n:=by rw [← hx,List.length_take,Array.length_toList,hcs];omega
 have hcur:∀ j v,xs[j]? = some v→w.cell? ⟨g,j,none⟩=some v:=fun j v hj=>by
  have:cur[j]? = some v:=by
   rw [← hx,List.getElem?_take] at hj
   split at hj
   ·simpa using hj
   ·cases hj
  simp [World.cell?,hg,this]
 have hgw:g<w.heap.size:=(Array.getElem?_eq_some_iff.1 hg).1
 have hXw:X<w.heap.size:=(Array.getElem?_eq_some_iff.1 hX).1
 have hkk:(n:Int)+1-(k:Int)=((n+1-k:Nat):Int):=by omega
 have hik:k+(n+1-k)=n+1:=by omega
 have hold:(Builtin.firstCells i0.size k (.slice (some ⟨g,0,none⟩) k c)).run Tryz.prog w.drew=.ok (xs.take k).toArray w.drew:=by
  rw [hzs];exact run_firstCells_some w.drew 1 k ⟨g,0,none⟩ k c (xs.take k) (by rw [List.length_take];omega) (fun j v hj=>by
   rw [Addr.add_lit,Nat.zero_add];rw [List.getElem?_take] at hj
   split at hj
   ·exact hcur j v hj
   ·cases hj)
 obtain ⟨G,hG⟩:∃ G,G=grownCap w (n+1) c 3:=⟨_,rfl⟩
 obtain ⟨ROW,hROW⟩:∃ ROW:Array Value,ROW=(xs.take k).toArray++Builtin.zeroCells (Value.int .i64 0).cells (n+1-k)++Builtin.zeroCells (Value.int .i64 0).cells (G-(n+1)):=⟨_,rfl⟩
 have hrz:∀ ty,(Builtin.append_ #[32,3] ty #[.slice (some ⟨g,0,none⟩) k c,.int .i64 ((n:Int)+1-(k:Int))]).run Tryz.prog w=.ok (.slice (some ⟨w.heap.size,0,none⟩) (n+1) G) (w.drew.alloc (.cells ROW 3)):=fun ty=>by
  have h:=Lib.run_append_grow_zeros w 32 3 ty 3 i0 _ .i64 .i64 Tryz.underlying32 Tryz.underlying3 hi0 hz0 (some ⟨g,0,none⟩) k c (xs.take k) hold (n+1-k) (by omega) (by omega) (by omega) (by omega) (by rw [hzb];omega) (by rw [hzb,hik];exact growslice_fits hroom (by omega))
  rw [hik] at h;rw [hkk,h,hG,hROW,hG]
 have hGn:n+1≤G:=by rw [hG];exact grownCap_ge w _ _ _
 have hGm:G≤maxLen:=by rw [hG];exact grownCap_le_maxLen w (n+1) c 3 (by unfold maxLen;omega)
 have hRl:ROW.size=G:=by
  rw [hROW];simp only [Array.size_append,List.size_toArray,List.length_take,size_zeroCells];have:(Value.int .i64 0).cells.size=1:=rfl
  rw [this];omega
 have hRt:ROW.toList.take k=xs.take k:=by
  rw [hROW];simp only [Array.toList_append,List.append_assoc];rw [List.take_append_of_le_length (by simp only [List.length_take];omega)]
  exact List.take_of_length_le (by simp only [List.length_take];omega)
 obtain ⟨q,hq⟩:∃ q,q=w.heap.size:=⟨_,rfl⟩
 rw [← hq] at hrz;obtain ⟨W1,hW1⟩:∃ W1,W1=w.drew.alloc (.cells ROW 3):=⟨_,rfl⟩
 rw [← hW1] at hrz;have hq1:W1.heap[q]? = some (.cells ROW 3 (0,0)):=by rw [hW1,hq];exact heap_alloc_new w.drew _
 have hold1:∀ b,b<q→W1.heap[b]? = w.heap[b]?:=fun b hb=>by rw [hW1];exact Below.heap_alloc w.drew _ b (by rw [hq] at hb;exact hb)
 have hX1:W1.heap[X]? = some (.cells #[u] 3 (0,0)):=by rw [hold1 X (by omega)];exact hX
 obtain ⟨c1,hc1⟩:∃ c1:Array Value,c1=(ROW.toList.take k++[u]++ROW.toList.drop (k+1)).toArray:=⟨_,rfl⟩
 have hc1s:c1.size=G:=by rw [hc1];simp only [List.size_toArray,List.length_append,List.length_take,List.length_drop,Array.length_toList,List.length_singleton];omega
 have hcpA:∀ ty dc,(Builtin.copy_ #[32,32] ty #[.slice (some ⟨q,k,none⟩) (n+1-k) dc,.slice (some ⟨X,0,none⟩) 1 1]).run Tryz.prog W1=.ok (goInt 1) (W1.setRow q c1):=fun ty dc=>by
  rw [hc1];exact zC8 W1 _ _ ty 3 1 q k _ _ ⟨X,0,none⟩ _ _ ROW 3 1 [u] Tryz.underlying32 hsz hq1 (by simp only [Nat.min_def];split <;> omega) rfl
   (fun j v hj=>by
    rw [Addr.add_lit];cases j with
    | zero=>simp at hj;subst hj;exact zAA hX1 0 _ rfl
    | succ j=>simp at hj) (by simp only [List.length_singleton];omega) (by simpa using hu)
 obtain ⟨W2,hW2⟩:∃ W2,W2=W1.setRow q c1:=⟨_,rfl⟩
 rw [← hW2] at hcpA;have hq2:W2.heap[q]? = some (.cells c1 3 (0,0)):=by rw [hW2];exact setRow_heap W1 q ROW c1 _ _ hq1
 have hold2:∀ b,b<q→W2.heap[b]? = w.heap[b]?:=fun b hb=>by rw [hW2,setRow_other W1 q b _ (by omega)];exact hold1 b hb
 obtain ⟨c2,hc2⟩:∃ c2:Array Value,c2=(c1.toList.take (k+1)++xs.drop k++c1.toList.drop (k+1+(xs.drop k).length)).toArray:=⟨_,rfl⟩
 have hcpB:∀ ty dc sc,(Builtin.copy_ #[32,32] ty #[.slice (some ⟨q,k+1,none⟩) (n-k) dc,.slice (some ⟨g,k,none⟩) (n-k) sc]).run Tryz.prog W2.drew=.ok (goInt (n-k:Nat)) (W2.drew.setRow q c2):=fun ty dc sc=>by
  rw [hc2];exact zC8 W2.drew _ _ ty 3 1 q (k+1) _ _ ⟨g,k,none⟩ _ _ c1 3 (n-k) (xs.drop k) Tryz.underlying32 hsz hq2 (by simp only [Nat.min_def];split <;> omega) (by rw [List.length_drop];omega)
   (fun j v hj=>by
    rw [Addr.add_lit];have:=hcur (k+j) v (by rwa [List.getElem?_drop] at hj)
    rw [← this];exact World.cell?_of_block (a:=⟨g,k+j,none⟩) (hold2 g (by omega))) (by rw [List.length_drop];omega) (fun v hv=>h1 v (List.mem_of_mem_drop hv))
 obtain ⟨W3,hW3⟩:∃ W3,W3=W2.drew.setRow q c2:=⟨_,rfl⟩
 rw [← hW3] at hcpB;have hq3:W3.heap[q]? = some (.cells c2 3 (0,0)):=by rw [hW3];exact setRow_heap W2.drew q c1 c2 _ _ hq2
 have hgr:w.grownBy W3 (some g):=by
  rw [hW3,hW2,hW1];refine ⟨rfl,rfl,rfl,by simp,fun j hj _=>?_⟩
  have:=hold2 j (by omega)
  rw [hW2,hW1] at this;rw [← this];exact setRow_other _ q j _ (by omega)
 have hrow3:W3.ownsRow 0 3 1 (.slice (some ⟨q,0,none⟩) (n+1) G) (n+1) (xs.take k++u :: xs.drop k):=by
  refine zE9 hq3 hGn hGm ?_ ?_
  ·rw [hc2];simp only [List.size_toArray,List.length_append,List.length_take,List.length_drop,Array.length_toList];omega
  ·have:=zJf (xs.take k) [u] xs k 1 n rfl rfl (by omega) hxl ROW.toList c1.toList c2.toList hRt (by rw [hc1];rfl) (by rw [hc2])
   simp only [Nat.mul_one];rw [this];simp
 have HPOST:Hid (RowPost w (.slice (some ⟨g,0,none⟩) n c) (fun w' v'=>w'.ownsRow 0 3 1 v' (n+1) (xs.take k++u :: xs.drop k)) (.returned (.slice (some ⟨q,0,none⟩) (n+1) G)) W3):=⟨_,rfl,hrow3,hgr,fun b hb=>by injection hb with hb;exact .inr (by show w.heap.size≤b;rw [← hb,hq];exact Nat.le_refl _)⟩
 have hk1:(k:Int)<n:=by omega
 have hk0:(0:Int)≤k:=by omega
 have hnk:((k:Int) == (n:Int))=false:=by simp;omega
 have hroom':(c:Int)<(n:Int)+1:=by omega
 have hncc:(n:Int)≤c:=by omega
 unfold maxLen at hGm;have hci:¬ (c=k):=by omega
 have hGi:¬ (G=k):=by omega
 have hGim:¬ (G=k+1):=by omega
 have hw1:IntKind.i64.wrap ((k:Int)+1)=(k:Int)+1:=by rw [IntKind.wrap_i64];omega
 have htn:((k:Int)+1).toNat=k+1:=by omega
 have hb0:(0:Int)≤(k:Int)+1:=by omega
 have hb1:(k:Int)+1≤(n:Int)+1:=by omega
 have hb2:(k:Int)≤(n:Int)+1:=by omega
 have hkn:(k:Int)≤(n:Int):=by omega
 clear hgr hrow3 hq3 hq2 hq1 hX1 hg hX hcs hx h1 hu hcur hxl hc1s hc1 hc2 hW1 hW2 hW3 hold hold1 hold2 hROW hRl hRt hG hkk hik hi0 hz0 hzs hzb hq
 go_enter Tryz.func51,Tryz.ntmps51
 go_wp2_with (first
  | (at_builtin;refine Lib.wpList_append_run _ rfl _ _ _ _ rfl _ _ rfl rfl _ _ (hrz _) ?_)
  | (at_builtin;refine Go.Proofs.wpList_copy_runI _ rfl _ _ 32 32 rfl _ _ rfl rfl (hcpA _ _) ?_))
 go_region_law (refine Go.Proofs.step_copy_runI rfl _ _ 32 32 rfl _ _ (by simp [Act.eval,Act.put]) (by simp [Act.eval,Act.put]) (hcpB _ _ _) ?_)
 go_wp2_with fail
 go_ret;exact HPOST.out
theorem zH9 (v:Value) (l:List Int) (k:Nat) (x:Int) (X:Nat) (w:World) (hrow:intRow w v l) (hX:w.heap[X]? = some (.cells #[.int .i64 x] 3 (0,0))) (hne:v.ownBlock≠some X) (hn:l.length≤1000000) (hk:k≤l.length) :
  Calls Tryz.prog 51 #[v,.int .i64 k,.slice (some ⟨X,0,none⟩) 1 1] w (RowPost w v fun w' v'=>intRow w' v' (l.take k++x :: l.drop k)):=by
 have h1:∀ u∈l.map (Value.int .i64),u.oneCell'=true:=fun u hu=>by
  obtain ⟨a,_,rfl⟩:=List.mem_map.1 hu;rfl
 have e1:(l.take k++x :: l.drop k).length=l.length+1:=by simp only [List.length_append,List.length_take,List.length_cons,List.length_drop];omega
 have e2:(l.take k++x :: l.drop k).map (Value.int .i64)=(l.map (Value.int .i64)).take k++Value.int .i64 x :: (l.map (Value.int .i64)).drop k:=by simp [List.map_take,List.map_drop]
 unfold intRow;rw [e1,e2];by_cases hkn:k=l.length
 ·have:=zHB v _ l.length (.int .i64 x) X w hrow hX rfl hn
  rw [hkn,List.take_of_length_le (by simp),List.drop_eq_nil_of_le (by simp)]
  exact this
 ·rcases hrow.2 with ⟨rfl,h0⟩ | ⟨g,cap,cur,rfl,_,hg,hnc,hcm,hcs,htake⟩
  ·omega
  ·have hXg:X≠g:=fun e=>hne (by rw [e];rfl)
   by_cases hroom:l.length+1≤cap
   ·exact zGL g cap k l.length cur _ _ X w hg hcs htake h1 hX rfl hXg hn (by omega) hroom hcm
   ·exact zGK g cap k l.length cur _ _ X w hg hcs htake h1 hX rfl hn (by omega) hnc (by omega)
end
section
open Go.RowKit Go.Lib
theorem zBz {P:Program} {ops:Array Oper} {o:Oper} {a:Act} {w:World} {K:Act→World→Prop} {Q:Exit→Act→World→Prop} {E:Prop}
  (hg:o.guard=none) (d x:Operand) (dT sT:TypeId) (hop:o.op=Op.call { callee:=Callee.builtin Builtin.append,args:=#[d,x],argTypes:=#[dT,sT] })
  (v u:Value) (hd:a.eval d=v) (hx:a.eval x=u) {v':Value} {w':World} (hr:(Builtin.append_ #[dT,sT] o.type #[v,u]).run P w=.ok v' w') (hK:K (a.put o.dst v') w') :
  if Region.wanted o (yielded ops a.tmps)=true then Oper.wp P o a w K Q else E:=by
 have hw:Region.wanted o (yielded ops a.tmps)=true:=by simp [Region.wanted,hg]
 rw [if_pos hw];unfold Oper.wp;simp [execOp,hop,resolve,invoke,builtin,hd,hx,hr,Result.andThen]
 exact hK
end
section
open Go.RowKit Go.Shelf
attribute [local go_sem] Oper.semAt_some
theorem zA8 {F:Fence} {n:Nat} {P:Program} (w:World) {ops:Array Oper} {rest:List Oper} {o:Oper} {a:Act} {Q:Exit→Act→World→Prop}
  (hg:o.guard=none) (s x:Operand) (t:TypeId) (hop:o.op=Op.call { callee:=Callee.builtin Builtin.append,args:=#[s,x],argTypes:=#[t,t] })
  (v u:Value) (hs:a.eval s=v) (hx:a.eval x=u) {v':Value} {w':World} (hr:(Builtin.append_ #[t,t] o.type #[v,u]).run P w=.ok v' w') (hK:wpListIn F n P ops Q rest (a.put o.dst v') w') :
  wpListIn F n P ops Q (o :: rest) a w:=by
 refine wpListIn_plain hg fun K hK'=>?_
 unfold Oper.wpIn;refine ⟨?_,?_⟩
 ·simp [Oper.about,hop,resolve,Target.leads,Sem.run_pure]
 ·rw [Oper.semAt_plain F _ _ (by rw [hop];intro c hc';cases hc')]
  simp [execOp,hop,resolve,invoke,builtin,hs,hx,hr,Result.andThen]
  exact hK' _ _ hK
def BoxRow (N bx:Nat) (ty e:TypeId) (size n:Nat) (xs:List Value) (Fp:Nat→Prop) (W:World):Prop :=
 ∃ v,W.heap[bx]? = some (.cells #[v] ty (0,0))∧W.ownsRow 0 e size v n xs∧Fp bx ∧ ∀ b,v.ownBlock=some b→Fp b∧N≤b
theorem BoxRow.stab {N M bx:Nat} {ty e:TypeId} {size n:Nat} {xs:List Value} (Fp:Nat→Prop):StabF M Fp (BoxRow N bx ty e size n xs Fp):=by
 rintro A B ⟨v,h1,h2,h3,h4⟩ hk;exact ⟨v,(hk.block (Array.getElem?_eq_some_iff.1 h1).1 (.inr h3)).trans h1,zAC h2 fun b hb=>hk.block (zAJ h2 hb) (.inr (h4 b hb).1),h3,h4⟩
theorem zCe {w:World} {b:Nat} {v u:Value} {ty:TypeId} (hg:w.heap[b]? = some (.cells #[v] ty (0,0))):w.setCell ⟨b,0,none⟩ u=w.setRow b #[u]:=by
 unfold World.setCell World.setRow
 congr 1
 apply Array.ext_getElem?
 intro i;rw [Array.getElem?_modify,Array.getElem?_modify];by_cases h:b=i
 ·subst h
  simp only [hg,Option.map_some];simp
 ·simp only [if_neg h]
theorem zFO {N bx:Nat} {ty e:TypeId} {size n:Nat} {xs:List Value} {Fp:Nat→Prop} {W Wa w':World} {v v':Value} (hb:W.heap[bx]? = some (.cells #[v] ty (0,0))) (hf:Fp bx) (hv:∀ b,v.ownBlock=some b→Fp b∧N≤b)
  (hF:∀ b,Fp b→b<W.heap.size) (hN:N≤W.heap.size) (hty:ty≠e) (ha:Below W.heap.size W Wa) (hg:Wa.grownBy w' v.ownBlock) (hnew:∀ b,v'.ownBlock=some b→v.ownBlock=some b∨Wa.heap.size≤b) (hvb:v.ownBlock≠some bx)
  (hrow:w'.ownsRow 0 e size v' n xs):Left Fp W (BoxRow N bx ty e size n xs) (w'.setRow bx #[v']):=by
 have hlt:bx<W.heap.size:=hF bx hf
 have hbw:w'.heap[bx]? = some (.cells #[v] ty (0,0)):=(hg.block bx (Nat.lt_of_lt_of_le hlt ha.size) (fun h=>hvb h.symm)).trans ((ha.block bx hlt).trans hb)
 have hv'b:v'.ownBlock≠some bx:=zAT hrow hbw (fun cur h=>by injection h with _ h _;exact hty h)
 refine ⟨fun b=>Fp b∨v'.ownBlock=some b,⟨⟨?_,?_,?_,?_,fun b hb1 hnf=>?_⟩,fun b hb1=>?_⟩,fun b hb1=>?_,v',setRow_heap _ _ _ _ _ _ hbw,zAC hrow fun b h=>setRow_other _ _ _ _ (fun e'=>hv'b (by rw [h,e'])),.inl hf,fun b h=>⟨.inr h,?_⟩⟩
 ·exact hg.os.trans ha.os
 ·exact hg.tape.trans ha.tape
 ·exact hg.output.trans ha.output
 ·simp;exact Nat.le_trans ha.size hg.size
 ·rw [setRow_other _ _ _ _ (fun e'=>hnf (by rw [e'];exact hf))]
  exact (hg.block b (Nat.lt_of_lt_of_le hb1 ha.size) (fun h=>hnf (hv b h.symm).1)).trans (ha.block b hb1)
 ·rcases hb1 with h | h
  ·exact .inl h
  ·rcases hnew b h with h | h
   ·exact .inl (hv b h).1
   ·have:=ha.size;exact .inr (by omega)
 ·have h1:=ha.size
  have h2:=hg.size
  simp
  rcases hb1 with h | h
  ·have:=hF b h;omega
  ·exact zAJ hrow h
 ·rcases hnew b h with h | h
  ·exact (hv b h).2
  ·have:=ha.size;omega
theorem zG4 (w:World) (t:Nat) (id lv:Int):Calls Tryz.prog 50 #[.pointer (some ⟨t,0,none⟩),.int .i64 id,.int .i64 lv] w fun e w' =>
  e=.returned (.func (.func 72) #[] #[.pointer (some ⟨w.heap.size,0,none⟩),.pointer (some ⟨w.heap.size+1,0,none⟩),.pointer (some ⟨w.heap.size+2,0,none⟩)]) ∧
  Below w.heap.size w w'∧w'.heap.size=w.heap.size+3∧w'.heap[w.heap.size]? = some (.cells #[.pointer (some ⟨t,0,none⟩)] 24 (0,0))∧w'.heap[w.heap.size+1]? = some (.cells #[.int .i64 id] 3 (0,0))∧w'.heap[w.heap.size+2]? = some (.cells #[.int .i64 lv] 3 (0,0)):=by
 refine (zDr w t id lv).mono ?_
 rintro e w4 ⟨rfl,hw4⟩;refine ⟨rfl,?_,?_,?_,?_,?_⟩
 ·rw [hw4];exact (((Below.refl _ w).alloc (Nat.le_refl _) _).alloc (by simp) _).alloc (by simp;omega) _
 ·rw [hw4];simp
 ·rw [hw4]
  refine (Below.heap_alloc _ _ _ (by simp;omega)).trans ((Below.heap_alloc _ _ _ (by simp)).trans (heap_alloc_new w _))
 ·rw [hw4]
  refine (Below.heap_alloc _ _ _ (by simp)).trans ?_
  have:=heap_alloc_new (w.alloc (.cells #[.pointer (some ⟨t,0,none⟩)] 24)) (.cells #[.int .i64 id] 3)
  simpa using this
 ·rw [hw4]
  have:=heap_alloc_new ((w.alloc (.cells #[.pointer (some ⟨t,0,none⟩)] 24)).alloc (.cells #[.int .i64 id] 3)) (.cells #[.int .i64 lv] 3)
  simpa using this
def IterB (t mb:Nat) (y:Lay) (g:Int→Option Ent) (root next:Int) (n:Nat) (id lv:Int) (xs:List (Int × Int)):Prop :=
 ∀ (w':World) (bt bi bl:Nat),TreeAt w' t mb y g root next n→w'.heap[bt]? = some (.cells #[.pointer (some ⟨t,0,none⟩)] 24 (0,0))→w'.heap[bi]? = some (.cells #[.int .i64 id] 3 (0,0))→w'.heap[bl]? = some (.cells #[.int .i64 lv] 3 (0,0)) →
  IterG Tryz.prog 72 #[.pointer (some ⟨bt,0,none⟩),.pointer (some ⟨bi,0,none⟩),.pointer (some ⟨bl,0,none⟩)] encV xs (fun b=>Mine t mb y g b∨b=bt∨b=bi∨b=bl) w'
theorem zI0 {t mb:Nat} {y:Lay} {g:Int→Option Ent} {root next:Int} {n:Nat} (xs:List (Int × Int)) (hxs:xs.length≤1000000) (w:World) (ht:TreeAt w t mb y g root next n)
  (hit:IterB t mb y g root next n root 0 xs) :
  Calls Tryz.prog 30 #[.pointer (some ⟨t,0,none⟩)] w fun e w'=>∃ v,e=.returned v∧intRow w' v (xs.map (·.1))∧Below w.heap.size w w' ∧ ∀ b,v.ownBlock=some b→w.heap.size≤b:=by
 have HIT:=Lib.hid hit
 clear hit;obtain ⟨W1,hW1⟩:∃ W1,Hid (W1=w.alloc (.cells #[.slice none 0 0] 32)):=⟨_,rfl⟩
 have hb1:Below w.heap.size w W1:=by rw [hW1.out];exact (Below.refl _ w).alloc (Nat.le_refl _) _
 have hx1:W1.heap[w.heap.size]? = some (.cells #[.slice none 0 0] 32 (0,0)):=by rw [hW1.out];exact heap_alloc_new w _
 have hz1:W1.heap.size=w.heap.size+1:=by rw [hW1.out];simp
 have ht1:TreeAt W1 t mb y g root next n:=ht.below hb1
 have c1:=ht1.c1
 rw [hW1.out] at c1;obtain ⟨N,hN⟩:∃ N,Hid (w.heap.size=N):=⟨_,rfl⟩
 have HB1:=Lib.hid hb1
 have HT1:=Lib.hid ht1
 have HX1:=Lib.hid hx1
 clear hb1 hx1 ht1;refine callsIn_wide.1 (callsIn_of_wp_marks (n:=0) Tryz.func30 rfl trivial ?_ rfl)
 simp only [Tryz.ntmps30,List.size_toArray,List.length_cons,List.length_nil,Nat.reduceAdd,Nat.reduceSub,Array.replicate_succ,Array.replicate_zero,List.push_toArray,List.append_toArray,List.nil_append,List.cons_append]
 gi_wp2
 rw [← hW1.out];clear c1;refine ⟨trivial,rfl,?_⟩
 refine (callsIn_wide.2 (zG4 W1 t root 0)).mono ?_
 rintro e w4 ⟨rfl,hb4,hz4,k1,k2,k3⟩;have hit:=HIT.out w4 _ _ _ (HT1.out.below hb4) k1 k2 k3
 have hbx4:w4.heap[w.heap.size]? = some (.cells #[.slice none 0 0] 32 (0,0)):=(hb4.block _ (by omega)).trans HX1.out
 have hb04:Below w.heap.size w w4:=HB1.out.trans (hb4.mono (by omega))
 have HI:=Lib.hid hit
 have HT4:=Lib.hid (HT1.out.below hb4)
 have HTW:=Lib.hid ht
 have HX4:=Lib.hid hbx4
 have HB4:=Lib.hid hb04
 clear hit hbx4 hb04 hb4 k1 k2 k3 ht;rw [hN.out] at HX4 HB4 hz1;obtain ⟨Z,hZ⟩:∃ Z,Hid (W1.heap.size=Z):=⟨_,rfl⟩
 rw [hZ.out] at HI hz4 hz1;rw [hN.out,hZ.out];have HZ1:=Lib.hid hz1
 have HZ4:=Lib.hid hz4
 clear hz1 hz4
 gi_wp2
 refine zCE (gf:=72) (lb:=#[.pointer (some ⟨Z,0,none⟩),.pointer (some ⟨Z+1,0,none⟩),.pointer (some ⟨Z+2,0,none⟩)]) rfl (enters_of Tryz.func72 (by kernel_rfl) rfl)
  HI.out (fun b hb=>⟨?dlt,rfl⟩) (Nat.le_refl _) (fun _=>rfl) (fun b=>b=N) (fun b hb=>⟨?clt,?cnd⟩)
  (fun i Fq W'=>BoxRow N N 32 3 1 i ((xs.take i).map fun x=>Value.int .i64 x.1) Fq W')
  (fun c Fq W'=>False)
  ?sI ?sX ?start
  (fun x=>{ tmps:=#[Value.pointer (some ⟨t,0,none⟩),undef,Value.slice none 0 0,Value.pointer (some ⟨N,0,none⟩),Value.int .i64 x.1,Value.pointer (some ⟨t,0,none⟩),Value.pointer (some ⟨t,0,none⟩),Value.pointer (some ⟨t,0,none⟩),Value.pointer (some ⟨t,1,none⟩),Value.int .i64 root,Value.func (.func 72) #[] #[.pointer (some ⟨Z,0,none⟩),.pointer (some ⟨Z+1,0,none⟩),.pointer (some ⟨Z+2,0,none⟩)],Value.int .i64 x.1,Value.int .i64 x.2,undef,undef,undef,undef,undef],defers:=[] }) ?assign ?body ?done ?stop
 case dlt =>
  have h1:=HZ1.out
  have h4:=HZ4.out
  rcases hb with hb | rfl | rfl | rfl
  ·exact HT4.out.lt hb
  ·omega
  ·omega
  ·omega
 case clt=>have h1:=HZ1.out;have h4:=HZ4.out;omega
 case cnd =>
  have h1:=HZ1.out
  have h4:=HZ4.out
  rintro (hm | h | h | h)
  ·have:=HTW.out.lt hm;rw [hN.out] at this;omega
  ·omega
  ·omega
  ·omega
 case sI=>intro i Fq;exact BoxRow.stab Fq
 case sX=>intro c Fq A B h _;exact h
 case start=>exact ⟨_,HX4.out,⟨by simp,.inl ⟨rfl,rfl⟩⟩,rfl,fun b h=>by simp [Value.ownBlock] at h⟩
 case assign =>
  intro l' x W' K hK
  dsimp only [encV]
  gi_wp2
  exact hK
 case stop=>rintro c W5 ⟨Fq,_,_,hf,_⟩;exact hf.elim
 case body =>
  rintro l' i ⟨xi,xl⟩ Fq W' hx ⟨v,hb,hrow,hf,hv⟩ hW' hF;have hil:i<xs.length:=(List.getElem?_eq_some_iff.1 hx).1
  have fb:=zAA hb 0 _ rfl
  obtain ⟨Wa,hWa⟩:∃ Wa,Hid (Wa=W'.alloc (.cells #[.int .i64 xi] 3)):=⟨_,rfl⟩
  have hba:Below W'.heap.size W' Wa:=by rw [hWa.out];exact (Below.refl _ W').alloc (Nat.le_refl _) _
  have hXa:Wa.heap[W'.heap.size]? = some (.cells #[.int .i64 xi] 3 (0,0)):=by rw [hWa.out];exact heap_alloc_new W' _
  have hrowa:Wa.ownsRow 0 3 1 v i ((xs.take i).map fun x=>Value.int .i64 x.1):=zAC hrow fun b hb=>hba.block b (zAJ hrow hb)
  obtain ⟨v',w',hr,hrow',hg',hf'⟩:=zAy (P:=Tryz.prog) Wa 32 32 3 (.int .i64 0) 1 8 Tryz.underlying32 zBf rfl (by decide) (by decide) v i _ hrowa ⟨W'.heap.size,0,none⟩ 1 1 [.int .i64 xi] (by decide) rfl (by
   intro j u0 hj;rw [zAI];cases j with
   | zero=>simp at hj;subst hj;exact zAA hXa 0 _ rfl
   | succ j=>simp at hj) (by intro u hu;simp at hu;subst hu;rfl) (by omega) (by decide)
  rw [hWa.out] at hr;obtain ⟨pa,pn,pc,rfl⟩:∃ pa pn pc,v'=.slice pa pn pc:=by
   rcases hrow'.2 with ⟨h,_⟩ | ⟨_,_,_,h,_⟩
   ·exact ⟨_,_,_,h⟩
   ·exact ⟨_,_,_,h⟩
  have hvb:v.ownBlock≠some N:=zAT hrow hb (fun cur h=>by injection h with _ h _;exact absurd h (by decide))
  have hfin:=zFO (e:=3) (size:=1) (n:=i+1) (xs:=(xs.take (i+1)).map fun x=>Value.int .i64 x.1) hb hf hv hF (by have:=HB4.out.size;rw [hN.out] at this;omega) (by decide) hba hg' hf' hvb (by
   rw [List.take_add_one,hx];simpa using hrow')
  have hbw:w'.heap[N]? = some (.cells #[v] 32 (0,0)):=(hg'.block N (Nat.lt_of_lt_of_le (hF _ hf) hba.size) (fun h=>hvb h.symm)).trans ((hba.block N (hF _ hf)).trans hb)
  have fw:=zAA hbw 0 _ rfl
  have HBW:=Lib.hid hbw
  have fw2:=zAV hbw 0
  have HFIN:=Lib.hid hfin
  clear hb hrow hf hv hba hXa hrowa hrow' hg' hf' hvb hfin hF hW' hx
  gi_wp2_with (gi_at_builtin;refine zA8 _ rfl _ _ 32 rfl v (.slice (some ⟨W'.heap.size,0,none⟩) 1 1) (by simp [Act.eval]) (by simp [Act.eval]) hr ?_)
  rw [zCe HBW.out];exact HFIN.out
 case done =>
  rintro W5 ⟨Fq,r1,r2,⟨v,hb,hrow,hf,hv⟩,qn⟩ hK5;have fb:=zAA hb 0 _ rfl
  have HR1:=Lib.hid r1
  have HROW:=Lib.hid hrow
  have HV:=Lib.hid hv
  have HBX:=Lib.hid hb
  have hne:Hid (v.ownBlock≠some w4.heap.size):=fun h=>qn (hv _ h).1
  clear r1 r2 hb hrow hf hv qn
  gi_wp2
  have HK5:=Lib.hid hK5
  refine zAO [w4.heap.size] W5 (by simp) (fun b hb=>by simp at hb;subst hb;exact HK5.out) (fun w' hw'=>⟨v,results_tmp Tryz.results30 _ _ _,v,rfl,?_,?_,?_⟩)
  ·have h1:=HROW.out
   rw [List.take_length] at h1;have h2:=zAC (w':=w') h1 fun b hb=>hw'.block b (zAJ h1 hb) (fun hm=>by simp at hm;exact hne.out (by rw [hb,hm]))
   show w'.ownsRow 0 3 1 v (xs.map (·.1)).length ((xs.map (·.1)).map (Value.int .i64))
   rw [List.length_map,List.map_map];exact h2
  ·have h1:=HR1.out.1
   have h4:=HB4.out
   have hs:=h4.size
   have hn:=hN.out
   rw [hN.out];refine ⟨hw'.os.trans (h1.os.trans h4.os),hw'.tape.trans (h1.tape.trans h4.tape),hw'.output.trans (h1.output.trans h4.output),?_,fun b hb=>?_⟩
   ·have:=hw'.size;have:=h1.size;omega
   ·exact (hw'.block b (Nat.lt_of_lt_of_le (show b<w4.heap.size by omega) h1.size) (fun hm=>by simp at hm;omega)).trans ((h1.block b (by omega) (fun h=>by omega)).trans (h4.block b hb))
  ·intro b h;have:=(HV.out b h).2;rw [hN.out];exact this
end
section
open Go.RowKit Go.Shelf
def TP (t mb:Nat) (y:Lay) (g:Int→Option Ent) (w:World) (g':Int→Option Ent) (root' next':Int) (n':Nat) (w':World):Prop :=
 ∃ mb' y',TreeAt w' t mb' y' g' root' next' n'∧Grows (Mine t mb y g) (Mine t mb' y' g') w w'
def textE (s:List UInt8):Int:=if countL s<0 then 64 else if 1500<s.length then 67 else 0
def Ent.setText (e:Ent) (s:List UInt8):Ent:={ e with d:={ e.d with text:=s } }
def setTextG (g:Int→Option Ent) (id:Int) (s:List UInt8):Int × (Int→Option Ent):=match g id with
 | none=>(60,g)
 | some e=>if e.d.kind≠2 then (68,g) else if textE s≠0 then (textE s,g) else (0,fset g id (some (e.setText s)))
section
variable {w:World} {t mb:Nat} {y:Lay} {g:Int→Option Ent} {root next:Int} {n:Nat}
theorem zIa {w:World} {q i:Nat} {id:Int} {e:Ent} {a k v:Value} (h:w.heap[q]? = some (.cells (nodeC id e a k) 97 (0,0))):(w.setCell ⟨q,i,none⟩ v).heap[q]? = some (.cells ((nodeC id e a k).setIfInBounds i v) 97 (0,0)):=Lib.heap_setCell_same (i:=i) h v
end
end
end Go.Proofs.YtcombcoilpmnkaaGreat

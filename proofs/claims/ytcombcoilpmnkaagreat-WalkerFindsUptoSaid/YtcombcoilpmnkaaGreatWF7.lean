/-
  Texts of this claim, joined (by a program of the claim's author): GMovB, GRound, GItm, GGet, GOps, GOpsB, GOpsC, GRdF, GOpP, GDoes, GAlive, GFew, GIn.
-/
import Derived.Test.YtcombcoilpmnkaaGreatWF1
import Derived.Test.YtcombcoilpmnkaaGreatWF5
import Derived.Test.YtcombcoilpmnkaaGreatWF6
import Derived.Test.YtcombcoilpmnkaaGreatWF2
import Derived.Deep.RegionHeld
import Derived.Test.YtcombcoilpmnkaaGreatWF3
import Derived.Test.YtcombcoilpmnkaaGreatWF4
import Derived.Deep.Onto
namespace Go.Proofs.YtcombcoilpmnkaaGreat
set_option maxRecDepth 100000
set_option maxHeartbeats 16000000
section
open Go.RowKit Go.Shelf
attribute [local go_sem] Oper.semAt_some
def BoxI (W:World) (q:Nat) (ty:TypeId) (r:Int):Prop:=W.heap[q]? = some (.cells #[.int .i64 r] ty (0,0))
def MovI (D N:Nat) (parent:Int) (xs:List (Int × Int)) (i:Nat) (Fq:Nat→Prop) (W':World):Prop :=
 (parent ∉ (xs.take i).map (·.1))∧W'.heap[D]? = some (.cells #[.int .i64 (maxLv (xs.take i))] 3 (0,0))∧W'.heap[N+1]? = some (.cells #[.int .i64 0] 38 (0,0))∧W'.heap[N]? = some (.cells #[.int .i64 parent] 3 (0,0))∧Fq D∧Fq (N+1)
def MovX (N:Nat) (parent:Int) (xs:List (Int × Int)) (c:Code) (Fq:Nat→Prop) (W':World):Prop :=
 c=.ret∧(parent∈xs.map (·.1))∧W'.heap[N+1]? = some (.cells #[.int .i64 61] 38 (0,0))∧Fq (N+1)
section
variable {w:World} {t mb:Nat} {y:Lay} {g:Int→Option Ent} {root next:Int} {n:Nat}
end
end
section
open Go.RowKit
def noDefer (o:Oper):Bool:=match o.op with | .defer _=>false | _=>true
theorem zIo {P:Program} {row:String} {args:Array Value} {w:World} {R:Value→World→Prop} {n l:Nat} (h:Rows P row args w R):RowsIn (Fence.wide.inRound l) n P row args w R:=fun c cs _=>by
 obtain ⟨v,w',r,s⟩:=h c cs
 exact ⟨v,w',r,(stepsIn_wide (m:=_)).2 s⟩
theorem zIh {P:Program} {o:Oper} {a:Act} {w:World} {K:Act→World→Prop} {Q:Exit→Act→World→Prop} {n l:Nat} (hd:noDefer o=true) (h:o.wp P a w K Q):o.wpIn (Fence.wide.inRound l) n P a w K Q:=by
 refine ⟨fun _ _=>trivial,?_⟩
 rw [Oper.semAt_plain _ _ _ (fun c hc=>by simp [noDefer,hc] at hd)]
 unfold Oper.wp at h
 generalize (execOp a.eval o).run P w=r at h ⊢
 rcases r with ⟨x,w'⟩ | ⟨x,w'⟩
 ·cases x
  case value v=>exact h
  case skip=>exact h
  case defer d=>exact h
  case enter f args=>exact ⟨fun h=>(by cases h),CallsIn.inRound l (callsIn_wide.2 h)⟩
  case row r args=>exact ⟨fun h=>(by cases h),zIo h⟩
  all_goals exact h.elim
 ·cases x <;> first | exact h | exact h.elim
theorem zCl {P:Program} {md:Region.Mode} {ops:Array Oper} {Q:Exit→Act→World→Prop} {n l:Nat} (hd:ops.all noDefer=true) (hQ:¬ LetsOut Q):∀ (fuel:Nat) (listed:Array Bool) (a:Act) (w:World),wpAny P md ops Q fuel listed a w→wpAnyIn (Fence.wide.inRound l) n P md ops Q fuel listed a w
 | 0,_,_,_,h=>h
 | fuel+1,listed,a,w,h=>by
  refine ⟨h.1,fun i hi=>?_⟩
  have h1:=h.2 i hi
  unfold wpOp at h1;unfold wpOpIn;cases ho:ops[i]? with
  | none=>rw [ho] at h1;exact zCl hd hQ fuel _ _ _ h1
  | some o =>
   rw [ho] at h1;simp only at h1 ⊢
   have hod:noDefer o=true:=by
    obtain ⟨hlt,rfl⟩:=Array.getElem?_eq_some_iff.1 ho
    exact (Array.all_eq_true.1 hd) i hlt
   split at h1
   ·rcases h1 with h1 | ⟨_,h1⟩
    ·rw [if_pos (by assumption)]
     exact zIh hod (Oper.wp_mono (fun a w h=>zCl hd hQ fuel _ a w h) h1)
    ·exact (hQ h1).elim
   ·rw [if_neg (by assumption)]
    exact ⟨fun _ _=>trivial,zCl hd hQ fuel _ _ _ h1⟩
def onlyN (Q:Exit→Act→World→Prop):Exit→Act→World→Prop
 | .normal,a,w=>Q .normal a w
 | _,_,_=>False
theorem zB0 {P:Program} {ops:Array Oper} {Q:Exit→Act→World→Prop} {id n l:Nat} {a:Act} {w:World} (S:World→Prop) (hm:P.follows .mixedOrders=true) (hd:ops.all noDefer=true) (hS:S w.drew)
  (h:S w.drew→wpAnyH P .any ops (onlyN Q) S ops.size (Array.replicate ops.size false) a w.drew):(Code.region id ops true).wpIn (Fence.wide.inRound l) n P Q a w:=by
 have hl:¬ LetsOut (onlyN Q):=fun ⟨_,_,h⟩=>h
 refine wpIn_mono (wpIn_region_any (Q:=onlyN Q) hm (zCl hd hl _ _ _ _ (wpAny_of_held _ _ _ _ (h hS)))) ?_
 intro e a w h;cases e <;> first | exact h | exact h.elim
end
section
open Go.RowKit Go.Shelf
attribute [local go_sem] Oper.semAt_some
def itemG (g:Int→Option Ent) (x:Int × Int):ItemD:=match g x.1 with
 | some e=>e.d.at x.2
 | none=>⟨0,0,[],[],[]⟩
theorem zLh {w:World} {N:Nat} {e:TypeId} {size:Nat} {v:Value} {n:Nat} {xs:List Value} (h:w.ownsRow 0 e size v n xs) (hN:∀ b,v.ownBlock=some b→N≤b):w.ownsRow N e size v n xs:=by
 refine ⟨h.1,?_⟩
 rcases h.2 with h0 | ⟨g,cap,cur,rfl,_,rest⟩
 ·exact .inl h0
 ·exact .inr ⟨g,cap,cur,rfl,hN g rfl,rest⟩
def ItemsIn (N bx:Nat) (g:Int→Option Ent) (ys:List (Int × Int)) (Fp:Nat→Prop) (W:World):Prop :=
 ∃ S:List Slot,S.map (·.1)=ys.map (itemG g)∧BoxRow N bx 22 75 5 ys.length (S.flatMap cellsI) Fp W ∧
  ∀ s∈S,AttrsOwn W N s.2.1 s.2.2 s.1.attrs ∧ ∀ b,(Value.slice s.2.1 s.1.attrs.length s.2.2).ownBlock=some b→Fp b
theorem ItemsIn.stab {N M bx:Nat} {g:Int→Option Ent} {ys:List (Int × Int)} (Fp:Nat→Prop):StabF M Fp (ItemsIn N bx g ys Fp):=by
 rintro A B ⟨S,h1,h2,h3⟩ hk;exact ⟨S,h1,BoxRow.stab Fp A B h2 hk,fun s hs=>⟨zAC (h3 s hs).1 fun b hb=>hk.block (zAJ (h3 s hs).1 hb) (.inr ((h3 s hs).2 b hb)),(h3 s hs).2⟩⟩
def itemRow (xl:Int) (e:Ent) (A:Option Addr) (c:Nat):Array Value:=#[.int .i64 xl,.int .i64 e.d.kind,strV e.d.name,strV e.d.text,.slice A e.d.attrs.length c]
end
section
open Go.RowKit Go.Shelf
theorem zC5 {P:Program} {fn:Func} {p u:Tmp} {ty:TypeId} (h:fn.results=#[.cell p ty,.tmp u]) (tmps:Array Value) (w:World) (g:Nat) (t:TypeId) (cs:Array Value) (fr:Nat × Nat) (d:TypeDesc)
  (hp:tmps.getD p undef=.pointer (some ⟨g,0,none⟩)) (hg:w.heap[g]? = some (.cells cs t fr))
  (hu:P.underlying ty=some d) (hd:(match d with | .struct _ | .array _ _=>true | _=>false)=true) (hi:(P.info? ty).map (·.size)=some cs.size) :
  (results fn tmps).run P w=.ok (.tuple #[.agg cs,tmps.getD u undef]) w:=by
 have hp':tmps[p]?.getD undef=.pointer (some ⟨g,0,none⟩):=by simpa using hp
 simp [results,h,hp',asAddr,Result.andThen,run_loadVar_row w g t ty cs fr d hg hu hd hi]
def nodeR (id:Int) (e:Ent) (v:Value):Array Value:=#[.int .i64 id,.int .i64 e.par,.int .i64 e.d.kind,.int .i64 (e.kids.length:Int),strV e.d.name,strV e.d.text,v]
def nodeR0 (id:Int) (e:Ent) (v:Value):Array Value:=#[.int .i64 id,.int .i64 e.par,.int .i64 e.d.kind,.int .i64 0,strV e.d.name,strV e.d.text,v]
def nodeZ:Array Value:=#[.int .i64 0,.int .i64 0,.int .i64 0,.int .i64 0,.string ⟨#[]⟩,.string ⟨#[]⟩,.slice none 0 0]
theorem zJv:nodeZ.all (·.oneCell')=true:=by simp [nodeZ,Value.oneCell']
theorem zGY (id:Int) (e:Ent) (A:Option Addr) (n c:Nat):(nodeR id e (.slice A n c)).all (·.oneCell')=true:=by simp [nodeR,strV,Value.oneCell']
section
variable {w:World} {t mb:Nat} {y:Lay} {g:Int→Option Ent} {root next:Int} {n:Nat}
theorem zMR (h:TreeAt w t mb y g root next n) {id:Int} (hw:wfI id) (he:g id=none) :
  Calls Tryz.prog 19 #[.pointer (some ⟨t,0,none⟩),.int .i64 id] w fun e w'=>e=.returned (.tuple #[.agg nodeZ,.bool false])∧Below w.heap.size w w':=by
 obtain ⟨W1,hW1⟩:∃ W1,Hid (W1=w.alloc (.cells nodeZ 49)):=⟨_,rfl⟩
 have hb1:Below w.heap.size w W1:=by rw [hW1.out];exact (Below.refl _ w).alloc (Nat.le_refl _) _
 have HT1:Hid (W1.heap[w.heap.size]? = some (.cells nodeZ 49 (0,0))):=by show _=_;rw [hW1.out];exact heap_alloc_new w _
 have h1:=h.below hb1
 have c0:=h1.c0
 have hl:=(h1.look_no he hw).1
 rw [hW1.out] at c0 hl;unfold nodeZ at c0 hl;have HB1:=Lib.hid hb1
 clear h h1 he hb1
 go_enter Tryz.func19,Tryz.ntmps19
 go_wp2_with fail;refine bodyPost_ret (zC5 Tryz.results19 _ _ w.heap.size 49 nodeZ (0,0) _ rfl (heap_alloc_new w _) Tryz.underlying49 rfl (by kernel_rfl)) rfl ?_
 refine ⟨rfl,?_⟩
 have:=HB1.out
 rw [hW1.out] at this;exact this
theorem zLk (h:TreeAt w t mb y g root next n) {id:Int} {e:Ent} (hw:wfI id) (he:g id=some e) (hal:e.d.attrs.length≤1000000000) (hkl:e.kids.length≤1000000000) :
  Calls Tryz.prog 19 #[.pointer (some ⟨t,0,none⟩),.int .i64 id] w fun er w'=>∃ A c,er=.returned (.tuple #[.agg (nodeR id e (.slice A e.d.attrs.length c)),.bool true])∧AttrsOwn w' w.heap.size A c e.d.attrs∧Below w.heap.size w w':=by
 obtain ⟨W1,hW1⟩:∃ W1,Hid (W1=w.alloc (.cells nodeZ 49)):=⟨_,rfl⟩
 have hb1:Below w.heap.size w W1:=by rw [hW1.out];exact (Below.refl _ w).alloc (Nat.le_refl _) _
 have HT1:Hid (W1.heap[w.heap.size]? = some (.cells nodeZ 49 (0,0))):=by show _=_;rw [hW1.out];exact heap_alloc_new w _
 have h1:=h.below hb1
 have c0:=h1.c0
 have hl:=(h1.look_yes he hw).1
 obtain ⟨A0,c0',hat,_,_,_,_⟩:=zAR (h1.att _ _ he)
 obtain ⟨A1,c1',hki,_,_,_,_⟩:=zAR (h1.kid _ _ he)
 have hnode:=h1.node _ _ he
 rw [hat] at hnode;have d0:W1.cell? ⟨y.nb id,0,none⟩=some (.int .i64 id):=zAA hnode 0 _ rfl
 have d1:W1.cell? ⟨y.nb id,1,none⟩=some (.int .i64 e.par):=zAA hnode 1 _ rfl
 have d2:W1.cell? ⟨y.nb id,2,none⟩=some (.int .i64 e.d.kind):=zAA hnode 2 _ rfl
 have d3:W1.cell? ⟨y.nb id,3,none⟩=some (.int .i64 0):=zAA hnode 3 _ rfl
 have d4:W1.cell? ⟨y.nb id,4,none⟩=some (.string ⟨e.d.name.toArray⟩):=zAA hnode 4 _ rfl
 have d5:W1.cell? ⟨y.nb id,5,none⟩=some (.string ⟨e.d.text.toArray⟩):=zAA hnode 5 _ rfl
 have d6:W1.cell? ⟨y.nb id,6,none⟩=some (.slice A0 e.d.attrs.length c0'):=zAA hnode 6 _ rfl
 have HROW:Hid (AttrsOwn W1 0 A0 c0' e.d.attrs):=by
  have:=h1.att _ _ he
  rw [hat] at this;exact this
 have HKI:=Lib.hid hki
 have HAT:=Lib.hid hat
 have HE:=Lib.hid he
 have H1:=Lib.hid h1
 have HB1:=Lib.hid hb1
 have HAL:=Lib.hid hal
 have HKL:=Lib.hid hkl
 have hz1:Hid (W1.heap.size=w.heap.size+1):=by show _=_;rw [hW1.out];simp
 rw [hW1.out] at c0 hl d0 d1 d2 d3 d4 d5 d6;unfold nodeZ at c0 hl d0 d1 d2 d3 d4 d5 d6;clear h h1 he hb1 hat hki hnode hal hkl
 go_enter Tryz.func19,Tryz.ntmps19
 go_wp2_with fail
 change Code.wp _ _ _ _ ((w.alloc (.cells nodeZ 49)).alloc (.cells (nodeR0 id e (.slice A0 e.d.attrs.length c0')) 49))
 rw [← hW1.out];obtain ⟨W2,hW2⟩:∃ W2,Hid (W1.alloc (.cells (nodeR0 id e (.slice A0 e.d.attrs.length c0')) 49)=W2):=⟨_,rfl⟩
 rw [hW2.out];have hb2:Below W1.heap.size W1 W2:=by rw [← hW2.out];exact (Below.refl _ W1).alloc (Nat.le_refl _) _
 have hz2:W2.heap.size=W1.heap.size+1:=by rw [← hW2.out];simp
 have HX2:Hid (W2.heap[W1.heap.size]? = some (.cells (nodeR0 id e (.slice A0 e.d.attrs.length c0')) 49 (0,0))):=by show _=_;rw [← hW2.out];exact heap_alloc_new W1 _
 have HT2:Hid (W2.heap[w.heap.size]? = some (.cells nodeZ 49 (0,0))):=(hb2.block _ (by have:=hz1.out;omega)).trans HT1.out
 have H2:=Lib.hid (H1.out.below hb2)
 have HROW2:Hid (AttrsOwn W2 0 A0 c0' e.d.attrs):=zAC HROW.out fun b hb=>hb2.block b (zAJ HROW.out hb)
 have HB2:=Lib.hid (HB1.out.trans (hb2.mono HB1.out.size))
 have HZ2:=Lib.hid hz2
 have hsz1:w.heap.size+1=W1.heap.size:=hz1.out.symm
 rw [hsz1];clear c0 hl d0 d1 d2 d3 d4 d5 d6 hb2 hz2 hsz1;have hkS:∀ V:World,TreeAt V t mb y g root next n→V.cell? ⟨y.nb id,6,none⟩=some (.slice A0 e.d.attrs.length c0')∧V.cell? ⟨y.nb id,7,none⟩=some (.slice A1 e.kids.length c1'):=fun V h =>
  ⟨by rw [← HAT.out];exact h.n6 HE.out,by rw [← HKI.out];exact h.n7 HE.out⟩
 have HKS:=Lib.hid hkS
 have HTD:Hid (TreeAt W2.drew t mb y g root next n):=H2.out.keep fun _ _=>rfl
 have hk0:(e.kids.length:Int)≤1000000000:=by have:=HKL.out;omega
 clear hkS;refine wp_region_held_drew (S:=fun V=>V.cell? ⟨y.nb id,6,none⟩=some (.slice A0 e.d.attrs.length c0')∧V.cell? ⟨y.nb id,7,none⟩=some (.slice A1 e.kids.length c1')) (by kernel_rfl) (HKS.out _ HTD.out) (fun hHeld=>?_)
 refine tkv 0 (h:=tkv 1 (h:=tkv 2 (h:=tkv 3 (h:=tkv 4 (h:=tkv 5 (h:=?_))))))
 refine tkv 6 (h:=tkv 7 (h:=tkv 8 (h:=tkv 9 (h:=?_))))
 refine tkv 11 (h:=?_)
 refine rdy 10 (fun K hK=>?_)
 go_simp
 refine (zFv e.d.attrs A0 c0' W2.drew (HROW2.out.at) HAL.out).mono ?_
 rintro e1 w5 ⟨A5,c5,rfl,hown5,hb5⟩;have ht5:=HTD.out.below hb5
 have HT5:=Lib.hid ht5
 have hx5:w5.heap[W1.heap.size]? = some (.cells (nodeR0 id e (.slice A0 e.d.attrs.length c0')) 49 (0,0)):=(hb5.block _ (by have:=HZ2.out;show _<W2.heap.size;omega)).trans HX2.out
 have hr5:w5.heap[w.heap.size]? = some (.cells nodeZ 49 (0,0)):=(hb5.block _ (by have:=HZ2.out;have:=hz1.out;show _<W2.heap.size;omega)).trans HT2.out
 go_wp2_with fail;refine hK.out _ _ (HKS.out _ HT5.out) (fun hHeld=>?_)
 clear hK K
 try go_frame
 have e3:w5.cell? ⟨W1.heap.size,3,none⟩=some (.int .i64 0):=zAA hx5 3 _ rfl
 have f3:=zAV hx5 3
 have hkeepT:∀ (V:World) (q:Nat) (v:Value),TreeAt V t mb y g root next n→TreeAt (V.setCell ⟨W1.heap.size,q,none⟩ v) t mb y g root next n:=fun V q v hV =>
  hV.keep fun b hb=>Below.heap_setCell _ _ _ _ (fun e'=>by have h1:=H1.out.lt hb;have e2:b=W1.heap.size:=e';omega)
 obtain ⟨w6,hw6⟩:∃ w6,Hid (w5.setCell ⟨W1.heap.size,3,none⟩ (.int .i64 (e.kids.length:Int))=w6):=⟨_,rfl⟩
 have hx6:w6.heap[W1.heap.size]? = some (.cells (nodeR id e (.slice A0 e.d.attrs.length c0')) 49 (0,0)):=by rw [← hw6.out];exact Lib.heap_setCell_same (i:=3) hx5 _
 have HT6:Hid (TreeAt w6 t mb y g root next n):=by rw [← hw6.out];exact hkeepT _ _ _ HT5.out
 have e6:w6.cell? ⟨W1.heap.size,6,none⟩=some (.slice A0 e.d.attrs.length c0'):=zAA hx6 6 _ rfl
 have f6:=zAV hx6 6
 obtain ⟨w7,hw7⟩:∃ w7,Hid (w6.setCell ⟨W1.heap.size,6,none⟩ (.slice A5 e.d.attrs.length c5)=w7):=⟨_,rfl⟩
 have hx7:w7.heap[W1.heap.size]? = some (.cells (nodeR id e (.slice A5 e.d.attrs.length c5)) 49 (0,0)):=by rw [← hw7.out];exact Lib.heap_setCell_same (i:=6) hx6 _
 have HT7:Hid (TreeAt w7 t mb y g root next n):=by rw [← hw7.out];exact hkeepT _ _ _ HT6.out
 have hso:∀ b,b≠W1.heap.size→w7.heap[b]? = w5.heap[b]?:=fun b hb=>by
  rw [← hw7.out,Below.heap_setCell _ _ _ _ hb,← hw6.out,Below.heap_setCell _ _ _ _ hb]
 have HR7:Hid (w7.heap[w.heap.size]? = some (.cells nodeZ 49 (0,0))):=(hso _ (by have:=hz1.out;omega)).trans hr5
 have HA7:Hid (AttrsOwn w7 w.heap.size A5 c5 e.d.attrs):=by
  have h1:=World.ownsRow.mono hown5 (show w.heap.size≤W2.drew.heap.size by show w.heap.size≤W2.heap.size;have:=HZ2.out;have:=hz1.out;omega)
  exact zAC h1 fun b hb=>hso b (fun e'=>by have:=(hown5.lt b hb).1;have h2:W2.heap.size≤b:=this;have:=HZ2.out;omega)
 have HB7:Hid (Below w.heap.size w w7):=by
  have hb:=(HB2.out.drew).trans (hb5.mono (by show w.heap.size≤W2.heap.size;have:=HZ2.out;have:=hz1.out;omega))
  refine ⟨?_,?_,?_,?_,fun b hb'=>(hso b (by have:=hz1.out;omega)).trans (hb.block b hb')⟩
  ·rw [← hw7.out,← hw6.out];exact hb.os
  ·rw [← hw7.out,← hw6.out];exact hb.tape
  ·rw [← hw7.out,← hw6.out];exact hb.output
  ·rw [← hw7.out,← hw6.out];simp;exact hb.size
 have m0:w7.cell? ⟨W1.heap.size,0,none⟩=some (.int .i64 id):=zAA hx7 0 _ rfl
 have m1:w7.cell? ⟨W1.heap.size,1,none⟩=some (.int .i64 e.par):=zAA hx7 1 _ rfl
 have m2:w7.cell? ⟨W1.heap.size,2,none⟩=some (.int .i64 e.d.kind):=zAA hx7 2 _ rfl
 have m3:w7.cell? ⟨W1.heap.size,3,none⟩=some (.int .i64 (e.kids.length:Int)):=zAA hx7 3 _ rfl
 have m4:w7.cell? ⟨W1.heap.size,4,none⟩=some (.string ⟨e.d.name.toArray⟩):=zAA hx7 4 _ rfl
 have m5:w7.cell? ⟨W1.heap.size,5,none⟩=some (.string ⟨e.d.text.toArray⟩):=zAA hx7 5 _ rfl
 have m6:w7.cell? ⟨W1.heap.size,6,none⟩=some (.slice A5 e.d.attrs.length c5):=zAA hx7 6 _ rfl
 have HX7:=Lib.hid hx7
 clear hx5 hr5 hx6 hkeepT hso hx7 hown5 hb5 ht5;refine rdy 12 (fun K hK=>?_)
 go_simp
 rw [hw6.out];refine hK.out _ _ (HKS.out _ HT6.out) (fun hHeld=>?_)
 clear hK K
 try go_frame
 refine tkv 13 (h:=?_)
 refine rdy 14 (fun K hK=>?_)
 go_simp
 rw [hw7.out];refine hK.out _ _ (HKS.out _ HT7.out) (fun hHeld=>?_)
 clear hK K
 try go_frame
 refine wpAnyH_done (by kernel_rfl) ?_ _
 clear hHeld
 go_wp2_with (refine wpList_store_row rfl 49 (.tmp 4) (.tmp 38) rfl w.heap.size (nodeR id e (.slice A5 e.d.attrs.length c5)) rfl rfl 49 nodeZ HR7.out (by kernel_rfl) rfl (zGY _ _ _ _ _) ?_)
 try simp only [Exit.inBlock,Exit.then]
 refine bodyPost_ret (zC5 Tryz.results19 _ _ w.heap.size 49 (nodeR id e (.slice A5 e.d.attrs.length c5)) (0,0) _ rfl (setRow_heap _ _ _ _ _ _ HR7.out) Tryz.underlying49 rfl (by kernel_rfl)) rfl ?_
 refine ⟨A5,c5,rfl,zAC HA7.out fun b hb=>setRow_other _ _ _ _ (fun e'=>?_),?_⟩
 ·have h1:=zAT (World.ownsRow.mono HA7.out (Nat.zero_le _)) HR7.out (fun cur h=>by injection h with _ h _;exact absurd h (by decide))
  exact h1 (by rw [hb,e'])
 ·have h1:=HB7.out
  exact ⟨h1.os,h1.tape,h1.output,by rw [setRow_size];exact h1.size,fun b hb=>(setRow_other _ _ _ _ (by omega)).trans (h1.block b hb)⟩
end
end
section
open Go.RowKit Go.Shelf
def DoP (t mb:Nat) (y:Lay) (f:Fo) (w:World) (a:Ans) (w':World):Prop:=∃ f':Fo,a.1=f'.flat 0∧InvF f' a.2.1∧TP t mb y (f.ent 0) w (f'.ent 0) (rootF f') a.2.1 f'.cnt w'
def DoI (t mb:Nat) (y:Lay) (f:Fo) (w:World) (a:Ans) (er:Ending) (w':World):Prop:=er=.returned (.tuple #[.int .i64 a.2.2.1,.int .i64 a.2.2.2])∧DoP t mb y f w a w'
def DoE (t mb:Nat) (y:Lay) (f:Fo) (w:World) (a:Ans) (er:Ending) (w':World):Prop:=a.2.2.1=0∧er=.returned (.int .i64 a.2.2.2)∧DoP t mb y f w a w'
section
variable {w:World} {t mb:Nat} {y:Lay} {f:Fo} {next:Int}
theorem zKJ (h:TreeAt w t mb y (f.ent 0) (rootF f) next f.cnt) (hi:InvF f next) {w':World} (hb:Below w.heap.size w w') (id e:Int):DoP t mb y f w (f.flat 0,next,id,e) w' :=
 ⟨f,rfl,hi,mb,y,h.below hb,Grows.of_below hb⟩
theorem zMT (h:TreeAt w t mb y (f.ent 0) (rootF f) next f.cnt) (hi:InvF f next) (l:List ItemD) (A:Option Addr) (c B:Nat) (hl:StandI (Mine t mb y (f.ent 0)) w B A l) (hBw:B≤w.heap.size) (hs:SmallItems l) :
  Calls Tryz.prog 26 #[.pointer (some ⟨t,0,none⟩),.slice A l.length c] w (DoI t mb y f w (loadL (f.flat 0) next l)):=by
 obtain ⟨n1,n2⟩:=hi.nx
 have hck:Hid (checkL l=((checkL l).1,(checkL l).2)):=rfl
 unfold loadL;by_cases h0:(checkL l).2=0
 ·rw [if_neg (by simpa using h0)]
  rw [h0] at hck;by_cases hm:2147483647<next+(l.length:Int)
  ·rw [if_pos hm]
   refine (zIx h l A c (hl.now.more hBw) hs _ hck (by omega) (by omega) hm).mono ?_
   rintro er w' ⟨rfl,hb⟩;exact ⟨rfl,zKJ h hi hb _ _⟩
  ·rw [if_neg hm]
   obtain ⟨F,q1,q2,_,_,s2,q3,q4,q5,q6⟩:=zJk h0 n1 (show next+(l.length:Int)≤2147483647 by omega)
   refine (zKW h l A c B hl hBw hs _ hck n1 n2 (by omega) s2 q3).mono ?_
   rintro er w' ⟨rfl,htp⟩;rw [q4,q5,q6] at htp;exact ⟨rfl,F,q2.symm,q1,htp⟩
 ·rw [if_pos h0]
  refine (zLn l A c (hl.now.more hBw) hs _ _ hck h0).mono ?_
  rintro er w' ⟨rfl,hb⟩;exact ⟨rfl,zKJ h hi hb _ _⟩
theorem zL2 {g:Int→Option Ent} {root:Int} {n:Nat} (hwf:∀ id e,g id=some e→wfI id) {q p:Int} {d:NodeD} {ks:Fo} (ha:Agr g q (.cons p d ks .nil)) (hc:ks.cnt≤100000) (y1:Lay):IterB t mb y1 g root next n p 0 (visT 0 (p,d,ks)) :=
 fun w' bt bi bl ht h1 h2 h3=>zCY hwf (.cons p d ks .nil) q 0 ha (by omega) (by simp [Fo.cnt];omega) 0 p d ks rfl w' bt bi bl ht h1 h2 h3
end
end
section
open Go.RowKit Go.Shelf
section
variable {f:Fo} {p lv to lt:Int} {d dt:NodeD} {ks kt:Fo} {A B A2 B2:List RowD}
end
section
variable {w:World} {t mb:Nat} {y:Lay} {f:Fo} {next:Int}
end
end
section
open Go.RowKit Go.Shelf
section
variable {w:World} {t mb:Nat} {y:Lay} {f:Fo} {next:Int}
end
end
section
open Go.RowKit Go.Shelf
def itemsAt (L:List RowD) (id:Int):List ItemD:=match findL L id with
 | some k=>itemsL L k
 | none=>[]
section
variable {w:World} {t mb:Nat} {y:Lay} {f:Fo} {next:Int}
theorem zLp (h:TreeAt w t mb y (f.ent 0) (rootF f) next f.cnt) (hi:InvF f next) :
  Calls Tryz.prog 30 #[.pointer (some ⟨t,0,none⟩)] w fun e w'=>∃ v,e=.returned v∧intRow w' v f.ids∧Below w.heap.size w w' ∧ ∀ b,v.ownBlock=some b→w.heap.size≤b:=by
 have hcn:=hi.cnt
 cases f with
 | nil=>exact zI0 [] (by simp) w h fun w' bt bi bl ht h1 h2 _=>zJx 0 ⟨by omega,by omega⟩ rfl w' bt bi bl ht h1 h2
 | cons id d ks r =>
  obtain ⟨rfl,_⟩:=hi.one id d ks r rfl
  have hag:=Fo.agr_ent (.cons id d ks .nil) 0 hi.nd
  have hc:ks.cnt≤1000:=by simp only [Fo.cnt] at hcn;omega
  have:=zI0 (visT 0 (id,d,ks)) (by rw [zLb];omega) w h (zL2 hi.wf hag (by omega) y)
  rw [zLa] at this;rw [show (Fo.cons id d ks .nil).ids=id :: ks.ids by simp [Fo.ids]]
  exact this
end
/-! ## What the calls do to ids -/
def IdsP (L:List RowD) (next:Int) (o:OpD) (a:Ans):Prop:=a.2.1=next+(if a.2.2.2=0∧(o.kind=0∨o.kind=1) then (o.l.length:Int) else 0)∧(a.2.2.2=0→(o.kind=0∨o.kind=1)→a.2.2.1=next)∧(a.2.2.2≠0→a=(L,next,0,a.2.2.2))
theorem IdsP.no {L:List RowD} {next:Int} {o:OpD} (e:Int) (he:e≠0):IdsP L next o (L,next,0,e):=by
 refine ⟨?_,fun h=>absurd h he,fun _=>rfl⟩
 rw [if_neg (fun h=>he h.1)]
 show next=next+0
 omega
theorem IdsP.ok {L L':List RowD} {next:Int} {o:OpD} (h:o.kind≠0∧o.kind≠1):IdsP L next o (L',next,0,0):=by
 refine ⟨?_,fun _ h'=>by omega,fun h=>absurd rfl h⟩
 rw [if_neg (by omega)]
 show next=next+0
 omega
theorem IdsP.more {L L':List RowD} {next:Int} {o:OpD} (h:o.kind=0∨o.kind=1):IdsP L next o (L',next+(o.l.length:Int),next,0):=by
 refine ⟨?_,fun _ _=>rfl,fun h=>absurd rfl h⟩
 rw [if_pos ⟨rfl,h⟩]
end
section
open Go.RowKit
def opVal (o:OpD) (A:Option Addr) (c:Nat):Array Value:=#[.int .i64 o.kind,.int .i64 o.id,.int .i64 o.to,.int .i64 o.pl,strV o.name,strV o.text,.slice A o.l.length c]
def OpCells (w:World) (ad:Addr) (k:Nat) (o:OpD) (A:Option Addr) (c:Nat):Prop :=
 w.cell? (ad.add (k * 7))=some (.int .i64 o.kind)∧w.cell? ⟨(ad.add (k * 7)).block,(ad.add (k * 7)).off+1,none⟩=some (.int .i64 o.id)∧w.cell? ⟨(ad.add (k * 7)).block,(ad.add (k * 7)).off+2,none⟩=some (.int .i64 o.to) ∧
 w.cell? ⟨(ad.add (k * 7)).block,(ad.add (k * 7)).off+3,none⟩=some (.int .i64 o.pl)∧w.cell? ⟨(ad.add (k * 7)).block,(ad.add (k * 7)).off+4,none⟩=some (strV o.name)∧w.cell? ⟨(ad.add (k * 7)).block,(ad.add (k * 7)).off+5,none⟩=some (strV o.text) ∧
 w.cell? ⟨(ad.add (k * 7)).block,(ad.add (k * 7)).off+6,none⟩=some (.slice A o.l.length c)
def OpsAt (w:World) (B:Nat) (A:Option Addr) (l:List OpD):Prop :=
 0<l.length → ∃ ad,A=some ad∧ad.block<B ∧ ∀ k o,l[k]? = some o → ∃ A' c,ItemsAt w B A' o.l∧o.l.length≤c∧OpCells w ad k o A' c
def SmallOp (o:OpD):Prop:=(wfI o.kind∧wfI o.id∧wfI o.to∧wfI o.pl)∧o.name.length≤1000000000∧o.text.length≤1000000000∧SmallItems o.l
def SmallOps (l:List OpD):Prop:=l.length≤1048576 ∧ ∀ o∈l,SmallOp o∧o.l.length≤1048576
variable {w w':World} {B B':Nat} {A:Option Addr} {l:List OpD}
theorem OpsAt.keep (h:OpsAt w B A l) (hk:∀ p:Addr,p.block<B→w'.cell? p=w.cell? p):OpsAt w' B A l:=fun hp=>by
 obtain ⟨ad,h1,h2,h3⟩:=h hp
 refine ⟨ad,h1,h2,fun k o ho=>?_⟩
 obtain ⟨A',c,k1,k2,k3,k4,k5,k6,k7,k8,k9⟩:=h3 k o ho
 have hb:(ad.add (k * 7)).block<B:=by rw [zAD];exact h2
 exact ⟨A',c,k1.keep hk,k2,(hk _ (by exact hb)).trans k3,(hk _ (by exact hb)).trans k4,(hk _ (by exact hb)).trans k5,(hk _ (by exact hb)).trans k6,(hk _ (by exact hb)).trans k7,(hk _ (by exact hb)).trans k8,(hk _ (by exact hb)).trans k9⟩
theorem OpsAt.more (h:OpsAt w B A l) (hB:B≤B'):OpsAt w B' A l:=fun hp=>by
 obtain ⟨ad,h1,h2,h3⟩:=h hp
 refine ⟨ad,h1,by omega,fun k o ho=>?_⟩
 obtain ⟨A',c,k1,k2⟩:=h3 k o ho
 exact ⟨A',c,k1.more hB,k2⟩
theorem OpsAt.below (h:OpsAt w B A l) (hb:Below B w w'):OpsAt w' B A l:=h.keep fun _ hp=>hb.cell hp
end
section
open Go.RowKit Go.Shelf
section
variable {w W1:World} {t mb:Nat} {y:Lay} {f:Fo} {next:Int}
theorem DoP.back {a:Ans} {w':World} (h:DoP t mb y f W1 a w') (hb:Below w.heap.size w W1):DoP t mb y f w a w':=by
 obtain ⟨f',h1,h2,mb',y',h3,h4⟩:=h
 exact ⟨f',h1,h2,mb',y',h3,Grows.trans (Grows.of_below hb) h4⟩
end
end
section
open Go.RowKit Go.Shelf
def docD:List ItemD:=[⟨0,1,[97],[],[]⟩,⟨1,2,[],[120],[]⟩]
def docD2:List ItemD:=[⟨0,1,[98],[],[]⟩,⟨1,2,[],[121],[]⟩]
def rows1:List RowD:=[⟨1,⟨0,1,[97],[],[]⟩⟩,⟨2,⟨1,2,[],[120],[]⟩⟩]
def rows2:List RowD:=[⟨1,⟨0,1,[97],[],[]⟩⟩,⟨2,⟨1,2,[],[120],[]⟩⟩,⟨3,⟨1,1,[98],[],[]⟩⟩,⟨4,⟨2,2,[],[121],[]⟩⟩]
def rows3:List RowD:=[⟨1,⟨0,1,[97],[],[]⟩⟩,⟨3,⟨1,1,[98],[],[]⟩⟩,⟨4,⟨2,2,[],[121],[]⟩⟩,⟨2,⟨1,2,[],[120],[]⟩⟩]
end
section
open Go.RowKit Go.Shelf
def manyL (l:List OpD):Nat:=(l.map (·.l.length)).sum
def fewL (l:List OpD):Bool:=decide (l.length≤80) && decide (manyL l≤2500)
end
section
open Go.RowKit Go.Shelf
def TreeM (M:Nat→Prop) (t:Nat) (f:Fo) (next:Int) (w:World):Prop:=∃ mb y,TreeAt w t mb y (f.ent 0) (rootF f) next f.cnt∧InvF f next∧(∀ b,Mine t mb y (f.ent 0) b→M b) ∧ ∀ b,M b→b<w.heap.size
section
variable {M:Nat→Prop} {t:Nat} {f:Fo} {next:Int} {w w':World}
theorem TreeM.below (h:TreeM M t f next w) (hb:Below w.heap.size w w'):TreeM M t f next w':=by
 obtain ⟨mb,y,h1,h2,h3,h4⟩:=h
 exact ⟨mb,y,h1.below hb,h2,h3,fun b hm=>Nat.lt_of_lt_of_le (h4 b hm) hb.size⟩
theorem TreeM.turn {M':Nat→Prop} (h:TreeM M t f next w) (ht:Turn M' w w') (hd:∀ b,M b → ¬ M' b):TreeM M t f next w':=by
 obtain ⟨mb,y,h1,h2,h3,h4⟩:=h
 exact ⟨mb,y,h1.turn ht fun b hm=>hd b (h3 b hm),h2,h3,fun b hm=>Nat.lt_of_lt_of_le (h4 b hm) ht.size⟩
theorem TreeM.inv (h:TreeM M t f next w):InvF f next:=by obtain ⟨_,_,_,h,_⟩:=h;exact h
theorem TreeM.lt (h:TreeM M t f next w) {b:Nat} (hb:M b):b<w.heap.size:=by obtain ⟨_,_,_,_,_,h⟩:=h;exact h b hb
theorem zMU (w:World):Calls Tryz.prog 25 #[] w fun e w'=>e=.returned (.pointer (some ⟨w.heap.size+1,0,none⟩))∧Below w.heap.size w w'∧TreeM (fun b=>b=w.heap.size+1∨b=w.heap.size) (w.heap.size+1) .nil 1 w':=by
 refine (zLo w).mono ?_
 rintro e w' ⟨rfl,hb,y,ht⟩;refine ⟨rfl,hb,_,y,ht,InvF.new,fun b hm=>?_,fun b hm=>?_⟩
 ·rcases hm with rfl | rfl | ⟨_,_,h,_⟩
  ·exact .inl rfl
  ·exact .inr rfl
  ·cases h
 ·rcases hm with rfl | rfl
  ·exact ht.lt (.inl rfl)
  ·exact ht.lt (.inr (.inl rfl))
theorem zG1 (h:TreeM M t f next w):Calls Tryz.prog 173 #[.pointer (some ⟨t,0,none⟩)] w fun e w'=>e=.returned (.int .i64 (rootF f))∧w=w':=by
 obtain ⟨_,_,h,_⟩:=h
 exact zKd h
theorem zKZ (h:TreeM M t f next w):Calls Tryz.prog 30 #[.pointer (some ⟨t,0,none⟩)] w fun e w'=>∃ v,e=.returned v∧intRow w' v f.ids∧Below w.heap.size w w'∧(∀ b,v.ownBlock=some b→w.heap.size≤b):=by
 obtain ⟨_,_,h,hi,_⟩:=h
 exact zLp h hi
def DoM (M:Nat→Prop) (t:Nat) (w:World) (a:Ans) (w':World):Prop:=∃ (M':Nat→Prop) (f':Fo),a.1=f'.flat 0∧TreeM M' t f' a.2.1 w'∧Grows M M' w w'
def DoIn (M:Nat→Prop) (t:Nat) (w:World) (a:Ans) (er:Ending) (w':World):Prop:=er=.returned (.tuple #[.int .i64 a.2.2.1,.int .i64 a.2.2.2])∧DoM M t w a w'
theorem DoP.toM {mb:Nat} {y:Lay} {a:Ans} (h:DoP t mb y f w a w') (hm:∀ b,Mine t mb y (f.ent 0) b→M b):DoM M t w a w':=by
 obtain ⟨f',h1,h2,mb',y',h3,h4⟩:=h
 refine ⟨Mine t mb' y' (f'.ent 0),f',h1,⟨mb',y',h3,h2,fun _ h=>h,fun b hb=>h3.lt hb⟩,h4.1.mono hm,fun b hb=>?_⟩
 rcases h4.2 b hb with h | h
 ·exact .inl (hm b h)
 ·exact .inr h
theorem Grows.low {M M':Nat→Prop} {N:Nat} {w w':World} (h:Grows M M' w w') (hM:∀ b,M b→N≤b) (hN:N≤w.heap.size):∀ b,M' b→N≤b:=fun b hb=>by
 rcases h.2 b hb with h | h
 ·exact hM b h
 ·omega
end
end
end Go.Proofs.YtcombcoilpmnkaaGreat

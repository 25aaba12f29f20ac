/-
  Texts of this claim, joined (by a program of the claim's author): Tk, Kit, Plain, Laid, Next, EscPlain, Shelf, Esc, RPut, RNext, UndoPlain, REsc, NamePlain, ItemPlain, Count.
-/
import Derived.Deep.RegionHeld3
import Derived.Maps.RangeWalk
import Derived.WalkKit
import Derived.WalkSpells
import Derived.WalkLawsBesides
import Derived.Lib.Hide
import Derived.Lib.UnsafeStr
import Derived.Lib.ConvBytes
import Derived.Lib.Builder
import Derived.Lib.BufferWrite
import Derived.Test.YtcombcoilpmnkaaGreatRows
import Derived.Lib.Strings
import Derived.Lib.IndexBytes
import Derived.Shelf.Strings.Builder1
import Derived.Shelf.Strings.BuilderF
import Derived.Shelf.Strings.BuilderK
import Derived.Test.YtcombcoilpmnkaaGreatProg
import Derived.Outline
namespace Go.Proofs.YtcombcoilpmnkaaGreat
set_option maxRecDepth 100000
set_option maxHeartbeats 16000000
section
theorem tk {P:Program} {md:Region.Mode} {ops:Array Oper} {Q:Exit→Act→World→Prop} {S:World→Prop} {fuel:Nat} {listed:Array Bool} {a:Act} {w:World} {oi:Oper} {v:Value} (i:Nat) (hi:ops[i]? = some oi)
  (hb:(Region.noSelect ops && Region.free md ops listed i && (Region.ready md ops listed).contains i)=true) (hQ:∀ c a w,Q (.panic c) (a.put oi.dst v) w→Q (.panic c) a w) (hy:YieldsIf P ops S oi v a) (hS:S w)
  (h:wpAnyH P md ops Q S fuel (listed.setIfInBounds i true) (a.put oi.dst v) w):wpAnyH P md ops Q S (fuel+1) listed a w:=by
 simp only [Bool.and_eq_true] at hb;exact wpAnyH_take hi hb.1.1 hb.1.2 hb.2 hQ hy hS h
theorem tkv {P:Program} {md:Region.Mode} {ops:Array Oper} {Q:Exit→Act→World→Prop} {S:World→Prop} {fuel:Nat} {listed:Array Bool} {a a':Act} {w:World} {d:Option Tmp} {o:Op} {t:TypeId} {p:String} {e:Array Edge} {g:Option (Nat × Bool)} {v:Value} (i:Nat) (hi:ops[i]? = some ⟨d,o,t,p,e,g⟩:=by rfl)
  (hy:YieldsIf P ops S ⟨d,o,t,p,e,g⟩ v a:=by refine .inl ⟨by rfl,?_⟩;(intro wS hSw;(try dsimp only at hSw);go_simp);all_goals with_reducible rfl)
  (hb:(Region.noSelect ops && Region.free md ops listed i && (Region.ready md ops listed).contains i)=true:=by kernel_rfl) (hQ:∀ c a w,Q (.panic c) (a.put d v) w→Q (.panic c) a w:=by exact fun _ _ _ h=>h) (hS:S w:=by assumption) (ha:a.put d v=a':=by (try go_frame);rfl) (h:wpAnyH P md ops Q S fuel (listed.setIfInBounds i true) a' w):wpAnyH P md ops Q S (fuel+1) listed a w :=
 tk i hi hb hQ hy hS (ha ▸ h)
theorem tkn {P:Program} {md:Region.Mode} {ops:Array Oper} {Q:Exit→Act→World→Prop} {S:World→Prop} {fuel:Nat} {listed:Array Bool} {a a':Act} {w:World} {d:Option Tmp} {o:Op} {t:TypeId} {p:String} {e:Array Edge} {g:Option (Nat × Bool)} (i:Nat) (hi:ops[i]? = some ⟨d,o,t,p,e,g⟩:=by rfl)
  (hy:YieldsIf P ops S ⟨d,o,t,p,e,g⟩ undef a:=by exact .inr ⟨by rfl,rfl⟩)
  (hb:(Region.noSelect ops && Region.free md ops listed i && (Region.ready md ops listed).contains i)=true:=by kernel_rfl) (hQ:∀ c a w,Q (.panic c) (a.put d undef) w→Q (.panic c) a w:=by exact fun _ _ _ h=>h) (hS:S w:=by assumption) (ha:a.put d undef=a':=by (try go_frame);rfl) (h:wpAnyH P md ops Q S fuel (listed.setIfInBounds i true) a' w):wpAnyH P md ops Q S (fuel+1) listed a w :=
 tk i hi hb hQ hy hS (ha ▸ h)
theorem rdy {P:Program} {md:Region.Mode} {ops:Array Oper} {Q:Exit→Act→World→Prop} {S:World→Prop} {fuel:Nat} {listed:Array Bool} {a:Act} {w:World} {d:Option Tmp} {o:Op} {t:TypeId} {p:String} {e:Array Edge} {g:Option (Nat × Bool)} (i:Nat)
  (h:∀ K':Act→World→Prop,Shut (∀ a w,S w→(S w→wpAnyH P md ops Q S fuel (listed.setIfInBounds i true) a w)→K' a w)→if Region.wanted ⟨d,o,t,p,e,g⟩ (yielded ops a.tmps)=true then Oper.wp P ⟨d,o,t,p,e,g⟩ a w K' Q else K' (a.put d undef) w)
  (hr:Region.ready md ops listed=[i]:=by kernel_rfl) (hi:ops[i]? = some ⟨d,o,t,p,e,g⟩:=by rfl):wpAnyH P md ops Q S (fuel+1) listed a w :=
 wpAnyH_ready hr (by simp) (AllReadyH.cons hi h AllReadyH.nil)
end
section
open Go.RowKit
def Ret (w:World) (v:Value) (e:Ending) (w':World):Prop:=e=.returned v∧Below w.heap.size w w'
/-! Endings: their numbers apart. -/
theorem zMC {k:IntKind} {a b:Int} (h:a=b):Ending.returned (.int k a)=.returned (.int k b):=by rw [h]
theorem zFk {a b:Bool} (h:a=b):Ending.returned (.bool a)=.returned (.bool b):=by rw [h]
theorem zKD {k j:IntKind} {a b a' b':Int} (ha:a=a') (hb:b=b'):Ending.returned (.tuple #[.int k a,.int j b])=.returned (.tuple #[.int k a',.int j b']):=by rw [ha,hb]
theorem zFd (w:World) (e:TypeId) (u:Value) (B:Nat) (hB:B≤w.heap.size):(w.alloc (.cells #[u] e)).ownsRow B e 1 (.slice (some ⟨w.heap.size,0,none⟩) 1 1) 1 [u] :=
 ⟨by simp,.inr ⟨w.heap.size,1,#[u],rfl,hB,heap_alloc_new w _,Nat.le_refl _,by decide,by simp,by simp⟩⟩
theorem zGa {w w':World} {B:Nat} {e:TypeId} {size:Nat} {v:Value} {n:Nat} {xs:List Value} (h:w.ownsRow B e size v n xs) (hb:Below w.heap.size w w'):w'.ownsRow B e size v n xs:=by
 refine ⟨h.1,?_⟩
 rcases h.2 with hn | ⟨g,cap,cur,rfl,h1,h2,rest⟩
 ·exact .inl hn
 ·refine .inr ⟨g,cap,cur,rfl,h1,?_,rest⟩
  rw [hb.block g (Array.getElem?_eq_some_iff.1 h2).1];exact h2
theorem zCW {P:Program} {w:World} {ops:Array Oper} {rest:List Oper} {o:Oper} {a:Act} {Q:Exit→Act→World→Prop} (hgd:o.guard=none) (s x:Operand) (t:TypeId)
  (ho:o.op=.call { callee:=.builtin .append,args:=#[s,x],argTypes:=#[t,t] })
  (B:Nat) (e:TypeId) (z:Value) (bytes:Nat) (ht:P.underlying t=some (.slice e)) (hi:(P.info? e).map (fun i=>(i.zero,i.size,i.bytes))=some (some z,1,bytes))
  (hzs:z.cells.size=1)
  (v:Value) (n:Nat) (xs:List Value) (u:Value) (hs:a.eval s=v) (hown:w.ownsRow B e 1 v n xs) (hB:B≤w.heap.size)
  (X:Nat) (hx:a.eval x=.slice (some ⟨X,0,none⟩) 1 1) (hX:X=w.heap.size) (hu:u.oneCell'=true) (hn:n<4294967296) (hby:bytes≤1000)
  (h:∀ g c w',w'.ownsRow B e 1 (.slice (some ⟨g,0,none⟩) (n+1) c) (n+1) (xs++[u])→Below B w w'→w.heap.size<w'.heap.size→wpList P ops Q rest (a.put o.dst (.slice (some ⟨g,0,none⟩) (n+1) c)) w') :
  wpList P ops Q (o :: rest) a (w.alloc (.cells #[u] e)):=by
 subst hX;obtain ⟨i0,hi0,hz0,hz1,hz2⟩:=info_parts hi
 refine wpList_append_own _ hgd s x t ho B e i0 z 1 bytes ht hi0 hz0 hz1 hz2 hzs (by decide) v n xs hs (hown.alloc _) ⟨w.heap.size,0,none⟩ 1 1 [u] hx rfl (cell_one_new _ _ _) (by intro y hy;simp at hy;subst hy;exact hu)
  (by unfold maxLen;omega) ?_ (by simp;omega) ?_
 ·have:(n+1) * bytes≤4294967296 * 1000:=Nat.mul_le_mul (by omega) hby
  omega
 ·intro v' w' hown' hg _
  obtain ⟨g,c,rfl⟩:∃ g c,v'=.slice (some ⟨g,0,none⟩) (n+1) c:=by
   rcases hown'.2 with ⟨_,h0⟩ | ⟨g,c,cur,hv,_⟩
   ·omega
   ·exact ⟨g,c,hv⟩
  refine h g c w' hown' (((Below.refl B w).alloc hB _).grown hg (by simp;omega) (fun k hk=>(hown.lt k hk).1)) ?_
  have:=hg.size
  simp at this
  omega
theorem zIQ (l:List UInt8):∀ r:ByteArray,(l.map (fun b=>(b.toNat:Int))).foldl (fun r n=>r.push (UInt8.ofNat n.toNat)) r=⟨r.data++l.toArray⟩:=by
 induction l with
 | nil=>intro r;simp
 | cons b l ih =>
  intro r;simp only [List.map_cons,List.foldl_cons];rw [ih];simp [ByteArray.push]
theorem zA9 {P:Program} {w:World} {src dst e:TypeId} {B:Nat} {g c n:Nat} {l:List UInt8} (hown:w.ownsRow B e 1 (.slice (some ⟨g,0,none⟩) n c) n (Lib.byteCells l))
  (hs:P.underlying src=some (.slice e)) (he:P.underlying e=some (.int .u8)) (hd:P.underlying dst=some .string) :
  (convert src dst (.slice (some ⟨g,0,none⟩) n c)).run P w=.ok (.string ⟨l.toArray⟩) w:=by
 have hl:l.length=n:=by have:=hown.1;simpa [Lib.byteCells_length] using this
 rw [run_convert_bytes_string w src dst e _ _ _ hs he hd];have hc:(loadCells ⟨g,0,none⟩ n).run P w=.ok ((l.map (fun b=>(b.toNat:Int))).map (Value.int .u8)).toArray w:=by
  have:=run_loadCells_list (P:=P) (w:=w) ⟨g,0,none⟩ (Lib.byteCells l) (fun j u hu=>hown.cells (g:=g) rfl j u hu)
  rw [Lib.byteCells_length,hl] at this;rw [this];simp [Lib.byteCells,List.map_map,Function.comp_def]
 rw [run_bytesToString w ⟨g,0,none⟩ n c _ hc,zIQ];have he:(ByteArray.empty).data=#[]:=rfl
 rw [he];simp
theorem zBO {P:Program} {src dst e:TypeId} (l:List UInt8) (cur:Array Value) (hc:cur.toList=Lib.byteCells l) (hm:l.length≤maxLen)
  (hs:P.underlying src=some (.slice e)) (he:P.underlying e=some (.int .u8)) (hd:P.underlying dst=some .string) (w:World) :
  (convert src dst (.slice (some ⟨w.heap.size,0,none⟩) l.length l.length)).run P (w.alloc (.cells cur e))=.ok (.string ⟨l.toArray⟩) (w.alloc (.cells cur e)):=by
 have hsz:cur.size=l.length:=by rw [← Array.length_toList,hc,Lib.byteCells_length]
 refine zA9 (B:=w.heap.size) (l:=l) ⟨by simp [Lib.byteCells_length],.inr ⟨w.heap.size,l.length,cur,rfl,Nat.le_refl _,heap_alloc_new w _,Nat.le_refl _,hm,by simp [hsz],?_⟩⟩ hs he hd
 rw [hc,List.take_of_length_le (by simp [Lib.byteCells_length])]
theorem zGn {P:Program} (w:World) (src dst e:TypeId) (t:ByteArray) (n:Nat) (l:List UInt8) (hn:t.size=n) (hl:t.data.toList=l) {u:TypeDesc}
  (hs:P.underlying src=some u) (hd:P.underlying dst=some (.slice e)) (he:P.underlying e=some (.int .u8)) :
  ∃ cap w1,(convert src dst (.string t)).run P w=.ok (.slice (some ⟨w.heap.size,0,none⟩) n cap) w1∧Below w.heap.size w w1∧w1.heap.size=w.heap.size+1 ∧
   ∀ j (h:j<l.length),w1.cell? ⟨w.heap.size,j,none⟩=some (.int .u8 l[j].toNat):=by
 subst hl;subst hn;refine ⟨_,_,Lib.run_convert_string_bytes w src dst e t hs hd he,⟨rfl,rfl,rfl,?_,fun k hk=>Lib.bytesWorld_at_old w e t k hk⟩,Lib.bytesWorld_size w e t,fun j h=>?_⟩
 ·rw [Lib.bytesWorld_size];omega
 ·rw [Lib.bytesWorld_cell w e t j (by simpa using h)]
  simp [List.getD,List.getElem?_eq_getElem h]
def strOf:Value→ByteArray
 | .string s=>s
 | _=>ByteArray.empty
theorem zAi {T e:TypeId} {B b:Nat} {bs:List Value} {w w':World} (h:Lib.IsBuilder T e B b bs w) (hb:Below w.heap.size w w'):Lib.IsBuilder T e B b bs w':=by
 have key:∀ p,Lib.BuilderAt T e B b p bs w→Lib.BuilderAt T e B b p bs w':=fun p h=>by
  obtain ⟨h1,v,h2,h3,h4⟩:=h
  exact ⟨h1,v,by rw [hb.block b (Array.getElem?_eq_some_iff.1 h2).1];exact h2,zGa h3 hb,h4⟩
 rcases h with h | h
 ·exact .inl (key _ h)
 ·exact .inr (key _ h)
theorem zDs (T e:TypeId) (w:World):Lib.IsBuilder T e w.heap.size w.heap.size [] (w.alloc (.cells #[.pointer none,.slice none 0 0] T)) :=
 .inl ⟨Nat.le_refl _,.slice none 0 0,heap_alloc_new w _,World.ownsRow_nil _ _ _ _,by simp [Value.ownBlock]⟩
theorem zGb {w:World} {B:Nat} {e:TypeId} {size:Nat} {ad:Option Addr} {n c:Nat} {xs:List Value} (h:w.ownsRow B e size (.slice ad n c) n xs):(ad=none∧n=0∧c=0) ∨ ∃ g,ad=some ⟨g,0,none⟩∧B≤g∧g<w.heap.size:=by
 rcases h.2 with ⟨h1,h2⟩ | ⟨g,cap,cur,h1,h2,h3,_⟩
 ·injection h1 with h1 _ h3;exact .inl ⟨h1,h2,h3⟩
 ·injection h1 with h1;exact .inr ⟨g,h1,h2,(Array.getElem?_eq_some_iff.1 h3).1⟩
theorem zAd {w:World} {B:Nat} {e:TypeId} {size:Nat} {g n c:Nat} {xs:List Value} (h:w.ownsRow B e size (.slice (some ⟨g,0,none⟩) n c) n xs) (j:Nat) (u:Value) (hu:xs[j]? = some u):w.cell? ⟨g,j,none⟩=some u:=by
 have:=h.cells (g:=g) rfl j u hu
 have e:(⟨g,0,none⟩:Addr).add j=⟨g,j,none⟩:=by unfold Addr.add;split <;> simp_all
 rwa [e] at this
theorem zFp (a b:List UInt8):(⟨a.toArray⟩:ByteArray)++⟨b.toArray⟩=⟨(a++b).toArray⟩:=by
 apply ByteArray.ext
 simp
end
section
def charB (c:Int):Bool:=decide (c=9∨c=10∨c=13∨(32≤c∧c<55296)∨(57344≤c∧c<65534)∨(65536≤c∧c≤1114111))
def bt (n:Int):UInt8:=UInt8.ofNat n.toNat
theorem zAf (n:Int) (h0:0≤n) (h1:n<256):((bt n).toNat:Int)=n:=by
 unfold bt;rw [UInt8.toNat_ofNat'];omega
def enc (c:Int):List UInt8 :=
 if c<128 then [bt c]
 else if c<2048 then [bt (192+c / 64),bt (128+c % 64)]
 else if c<65536 then [bt (224+c / 4096),bt (128+c / 64 % 64),bt (128+c % 64)]
 else [bt (240+c / 262144),bt (128+c / 4096 % 64),bt (128+c / 64 % 64),bt (128+c % 64)]
def putF (c:Int):List UInt8:=if charB c then enc c else []
def headN (x:Int):Nat:=if x<128 then 1 else if x<192 then 0 else if x<224 then 2 else if x<240 then 3 else if x<248 then 4 else 0
def headC (x:Int):Int:=if x<128 then x else if x<192 then 0 else if x<224 then x % 32 else if x<240 then x % 16 else if x<248 then x % 8 else 0
def contB (b:UInt8):Bool:=decide (128≤(b.toNat:Int)∧(b.toNat:Int)<192)
def foldC (c:Int) (m:List UInt8):Int:=m.foldl (fun c x=>c * 64+(x.toNat:Int) % 64) c
theorem zIP (c:Int) (m:List UInt8) (x:UInt8):foldC c (m++[x])=foldC c m * 64+(x.toNat:Int) % 64:=by simp [foldC]
def nextL:List UInt8→Int × Nat
 | []=>(0,0)
 | b :: t =>
  let n:=headN b.toNat
  if n=0 then (-1,0)
  else if t.length+1<n then (-1,0)
  else
   let m:=t.take (n-1)
   let c:=foldC (headC b.toNat) m
   if m.all contB && (charB c && (enc c == b :: m)) then (c,n) else (-1,0)
theorem zFV (x:Int):headN x≤4:=by unfold headN;repeat (first | split | omega)
theorem zKu (x:Int) (h0:0≤x):0≤headC x∧headC x<128∧(2≤headN x→headC x<32)∧(3≤headN x→headC x<16)∧(4≤headN x→headC x<8):=by
 unfold headC headN
 repeat (first | split | omega)
theorem zKq (x:Int) (h0:0≤x) (m:List UInt8) (hm:m.length+1≤headN x):∀ k,k≤m.length→0≤foldC (headC x) (m.take k)∧foldC (headC x) (m.take k)<2097152:=by
 have hb:=zKu x h0
 have h4:=zFV x
 have hx:∀ b:UInt8,0≤(b.toNat:Int) % 64∧(b.toNat:Int) % 64<64:=fun b=>by omega
 intro k hk
 match m,hm,hk with
 | [],_,hk =>
  obtain rfl:k=0:=by simpa using hk
  simp [foldC];omega
 | [a],hm,hk =>
  have ha:=hx a
  simp at hm hk
  match k,hk with
  | 0,_=>simp [foldC];omega
  | 1,_=>simp [foldC];omega
 | [a,b],hm,hk =>
  have ha:=hx a;have hb':=hx b
  simp at hm hk
  match k,hk with
  | 0,_=>simp [foldC];omega
  | 1,_=>simp [foldC];omega
  | 2,_=>simp [foldC];omega
 | [a,b,c],hm,hk =>
  have ha:=hx a;have hb':=hx b;have hc':=hx c
  simp at hm hk
  match k,hk with
  | 0,_=>simp [foldC];omega
  | 1,_=>simp [foldC];omega
  | 2,_=>simp [foldC];omega
  | 3,_=>simp [foldC];omega
 | a :: b :: c :: d :: r,hm,hk=>simp at hm;omega
/-! The document's way to read a character: the number out of the bytes,and tried. -/
def rN (x:Int):Nat:=if x<192 then 1 else if x<224 then 2 else if x<240 then 3 else if x<248 then 4 else 1
def rC (x:Int):Int:=if x<192 then x else if x<224 then x-192 else if x<240 then x-224 else if x<248 then x-240 else x
def foldR (c:Int) (m:List UInt8):Int:=m.foldl (fun c x=>c * 64+(x.toNat:Int)-128) c
theorem zDH (c:Int) (m:List UInt8) (x:UInt8):foldR c (m++[x])=foldR c m * 64+(x.toNat:Int)-128:=by simp [foldR]
theorem zJP (c:Int) (h0:0≤c) (h1:c≤1114111):∀ b t,enc c=b :: t→t.all contB=true:=by
 have hk:∀ k:Int,0≤k→contB (bt (128+k % 64))=true:=fun k hk=>by
  unfold contB;rw [zAf _ (by omega) (by omega)];simp;omega
 intro b t h;unfold enc at h
 split at h
 ·injection h with _ h;subst h;rfl
 split at h
 ·injection h with _ h;subst h;simp [hk c h0]
 split at h
 ·injection h with _ h;subst h;simp [hk c h0,hk (c / 64) (by omega)]
 ·injection h with _ h;subst h;simp [hk c h0,hk (c / 64) (by omega),hk (c / 4096) (by omega)]
theorem zHi {c:Int} (h:charB c=true):9≤c∧c≤1114111:=by simp [charB] at h;omega
theorem zKs (m:List UInt8):∀ c,m.all contB=true→foldR c m=foldC c m:=by
 induction m with
 | nil=>intro c _;rfl
 | cons x m ih =>
  intro c h;simp only [List.all_cons,Bool.and_eq_true] at h;have hx:128≤(x.toNat:Int)∧(x.toNat:Int)<192:=by simpa [contB] using h.1
  show foldR (c * 64+(x.toNat:Int)-128) m=foldC (c * 64+(x.toNat:Int) % 64) m
  rw [ih _ h.2]
  congr 1
  omega
theorem zKo (c:Int) (h:(enc c).length=1):c<128:=by
 unfold enc at h
 split at h
 ·assumption
 ·split at h
  ·simp at h
  ·split at h <;> simp at h
theorem zLG (b:UInt8) (t:List UInt8) :
  (if t.length+1<rN b.toNat then ((-1:Int),0) else
   if charB (foldR (rC b.toNat) (t.take (rN b.toNat-1))) && (enc (foldR (rC b.toNat) (t.take (rN b.toNat-1))) == b :: t.take (rN b.toNat-1)) then (foldR (rC b.toNat) (t.take (rN b.toNat-1)),rN b.toNat) else (-1,0))=nextL (b :: t):=by
 have hb:(b.toNat:Int)<256:=by have:=b.toNat_lt;omega
 simp only [nextL]
 generalize hx:(b.toNat:Int)=x at *
 have hx0:0≤x:=by omega
 by_cases h1:x<128
 ·have e1:rN x=1:=by unfold rN;rw [if_pos (by omega)]
  have e2:headN x=1:=by unfold headN;rw [if_pos h1]
  have e3:rC x=x:=by unfold rC;rw [if_pos (by omega)]
  have e4:headC x=x:=by unfold headC;rw [if_pos h1]
  simp [e1,e2,e3,e4,foldR,foldC]
 by_cases h2:x<192∨248≤x
 ·have e1:rN x=1:=by unfold rN;repeat (first | split | omega)
  have e2:headN x=0:=by unfold headN;repeat (first | split | omega)
  have e3:rC x=x:=by unfold rC;repeat (first | split | omega)
  have e4:(enc x == [b])=false:=by
   cases hh:(enc x == [b]) with
   | false=>rfl
   | true =>
    have:=zKo x (by rw [eq_of_beq hh];rfl)
    omega
  simp [e1,e2,e3,foldR,e4]
 ·have e1:rN x=headN x:=by unfold rN headN;repeat (first | split | omega)
  have e3:rC x=headC x:=by unfold rC headC;repeat (first | split | omega)
  have e2:headN x≠0:=by unfold headN;repeat (first | split | omega)
  rw [if_neg e2,e1,e3]
  split
  ·rfl
  ·cases ha:(t.take (headN x-1)).all contB with
   | true=>rw [zKs _ _ ha];simp
   | false =>
    have:(charB (foldR (headC x) (t.take (headN x-1))) && (enc (foldR (headC x) (t.take (headN x-1))) == b :: t.take (headN x-1)))=false:=by
     cases hh:(charB (foldR (headC x) (t.take (headN x-1))) && (enc (foldR (headC x) (t.take (headN x-1))) == b :: t.take (headN x-1))) with
     | false=>rfl
     | true =>
      rw [Bool.and_eq_true] at hh;have hc:=zHi hh.1
      have:=zJP _ (by omega) hc.2 _ _ (eq_of_beq hh.2)
      rw [ha] at this;cases this
    rw [this];simp
theorem zKr (x:Int) (h0:0≤x) (m:List UInt8) (hx2:x<256) (hm:m.length+1≤rN x):∀ k,k≤m.length → -1000000<foldR (rC x) (m.take k)∧foldR (rC x) (m.take k)<4194304:=by
 have hb:0≤rC x∧rC x<256∧(2≤rN x→rC x<32)∧(3≤rN x→rC x<16)∧(4≤rN x→rC x<8)∧rN x≤4:=by
  unfold rC rN
  repeat (first | split | omega)
 have hx:∀ b:UInt8,0≤(b.toNat:Int)∧(b.toNat:Int)<256:=fun b=>by have:=b.toNat_lt;omega
 intro k hk
 match m,hm,hk with
 | [],_,hk =>
  obtain rfl:k=0:=by simpa using hk
  simp [foldR];omega
 | [a],hm,hk =>
  have ha:=hx a
  simp at hm hk
  match k,hk with
  | 0,_=>simp [foldR];omega
  | 1,_=>simp [foldR];omega
 | [a,b],hm,hk =>
  have ha:=hx a;have hb':=hx b
  simp at hm hk
  match k,hk with
  | 0,_=>simp [foldR];omega
  | 1,_=>simp [foldR];omega
  | 2,_=>simp [foldR];omega
 | [a,b,c],hm,hk =>
  have ha:=hx a;have hb':=hx b;have hc':=hx c
  simp at hm hk
  match k,hk with
  | 0,_=>simp [foldR];omega
  | 1,_=>simp [foldR];omega
  | 2,_=>simp [foldR];omega
  | 3,_=>simp [foldR];omega
 | a :: b :: c :: d :: r,hm,hk=>simp at hm;omega
end
section
open Go.RowKit
theorem infoByte:(Tryz.prog.info? 5).map (fun i=>(i.zero,i.size,i.bytes))=some (some (.int .u8 0),1,1):=by kernel_rfl
theorem zMx:∀ (m:Fin 4) (x:Fin 64),m.val * 64+x.val<256→bits .or .u8 ((m.val:Int) * 64) (x.val:Int)=(m.val:Int) * 64+x.val:=by decide +kernel
theorem zMg (x:Int) (h0:0≤x) (h1:x<64):bits .or .u8 192 x=192+x:=by
 have:=zMx ⟨3,by omega⟩ ⟨x.toNat,by omega⟩ (by simp;omega)
 simpa [Int.toNat_of_nonneg h0] using this
theorem or0:∀ (x:Fin 256),bits .or .u8 0 (x.val:Int)=x.val:=by decide +kernel
theorem zMi:∀ (x:Fin 16),bits .or .u8 224 (x.val:Int)=224+x.val:=by decide +kernel
theorem zMk:∀ (x:Fin 8),bits .or .u8 240 (x.val:Int)=240+x.val:=by decide +kernel
theorem zNF (x:Int) (h0:0≤x) (h1:x<256):bits .or .u8 0 x=x:=by
 have:=or0 ⟨x.toNat,by omega⟩
 simpa [Int.toNat_of_nonneg h0] using this
theorem zMh (x:Int) (h0:0≤x) (h1:x<16):bits .or .u8 224 x=224+x:=by
 have:=zMi ⟨x.toNat,by omega⟩
 simpa [Int.toNat_of_nonneg h0] using this
theorem zMj (x:Int) (h0:0≤x) (h1:x<8):bits .or .u8 240 x=240+x:=by
 have:=zMk ⟨x.toNat,by omega⟩
 simpa [Int.toNat_of_nonneg h0] using this
theorem zHY (c:Int) (w:World) :
  Calls Tryz.prog 136 #[.int .i32 c] w fun e w'=>e=.returned (.bool (charB c))∧w=w':=by
 go_enter Tryz.func136,Tryz.ntmps136
 go_wp2
 all_goals go_ret
 all_goals (refine ⟨congrArg (fun b=>Ending.returned (.bool b)) ?_,rfl⟩;rw [Bool.eq_iff_iff];simp [charB];try omega)
theorem zMt (c:Int) (w:World) (h0:0≤c) (h1:c<128) :
  Calls Tryz.prog 137 #[.int .i32 c,.int .u8 0,.int .i64 1] w (Ret w (.string ⟨(enc c).toArray⟩)):=by
 have e0:bits .or .u8 0 c=c:=zNF _ (by omega) (by omega)
 go_enter Tryz.func137,Tryz.ntmps137
 go_wp2
 refine wp_loop_rounds 1 ?_
 have hc:[Value.int .u8 (c)]=Lib.byteCells (enc c):=by
  unfold enc;rw [if_pos (by omega)];simp [Lib.byteCells]
  simp only [zAf (c) (by omega) (by omega)]
 have hown:(w.alloc (.cells #[.int .u8 c] 5)).ownsRow w.heap.size 5 1 (.slice (some ⟨w.heap.size,0,none⟩) 1 1) 1 (Lib.byteCells (enc c)):=by
  rw [← hc];exact zFd w 5 (.int .u8 c) w.heap.size (Nat.le_refl _)
 clear hc;have hcv:=zA9 (P:=Tryz.prog) hown Tryz.underlying184 Tryz.underlying5 Tryz.underlying9
 rw [rounds_succ]
 go_wp2
 go_ret;exact ⟨rfl,(Below.refl _ _).alloc (Nat.le_refl _) _⟩
theorem zMu (c:Int) (w:World) (h0:128≤c) (h1:c<2048) :
  Calls Tryz.prog 137 #[.int .i32 c,.int .u8 192,.int .i64 2] w (Ret w (.string ⟨(enc c).toArray⟩)):=by
 have e0:bits .or .u8 192 (c / 64 % 256)=192+c / 64:=by rw [zMg _ (by omega) (by omega)];omega
 have e1:bits .or .u8 192 (c / 64)=192+c / 64:=by rw [zMg _ (by omega) (by omega)]
 go_enter Tryz.func137,Tryz.ntmps137
 go_wp2
 refine wp_loop_rounds 2 ?_
 rw [rounds_succ]
 go_wp2_with (at_builtin;refine zCW rfl (.tmp 24) (.tmp 32) 184 rfl w.heap.size 5 (.int .u8 0) 1 Tryz.underlying184 infoByte rfl _ 1 [.int .u8 (192+c / 64)] _ rfl (zFd _ _ _ _ (Nat.le_refl _)) (by simp) _ rfl (by simp) rfl (by omega) (by omega) ?_)
 intro g1 cp1 w1 hown1 hb1 hz1
 try simp only [List.cons_append,List.nil_append] at hown1
 have hc:[Value.int .u8 (192+c / 64),Value.int .u8 (128+c % 64)]=Lib.byteCells (enc c):=by
  unfold enc;rw [if_neg (by omega),if_pos (by omega)];simp [Lib.byteCells]
  simp only [zAf (192+c / 64) (by omega) (by omega),zAf (128+c % 64) (by omega) (by omega)];simp
 rw [hc] at hown1;clear hc;have hcv:=zA9 (P:=Tryz.prog) hown1 Tryz.underlying184 Tryz.underlying5 Tryz.underlying9
 go_wp2
 rw [rounds_succ]
 go_wp2
 go_ret;exact ⟨rfl,((Below.refl _ w).alloc (Nat.le_refl _) _).trans hb1⟩
theorem zMv (c:Int) (w:World) (h0:2048≤c) (h1:c<65536) :
  Calls Tryz.prog 137 #[.int .i32 c,.int .u8 224,.int .i64 3] w (Ret w (.string ⟨(enc c).toArray⟩)):=by
 have e0:bits .or .u8 224 (c / 4096 % 256)=224+c / 4096:=by rw [zMh _ (by omega) (by omega)];omega
 have e1:bits .or .u8 224 (c / 4096)=224+c / 4096:=by rw [zMh _ (by omega) (by omega)]
 go_enter Tryz.func137,Tryz.ntmps137
 go_wp2
 refine wp_loop_rounds 3 ?_
 rw [rounds_succ]
 go_wp2_with (at_builtin;refine zCW rfl (.tmp 24) (.tmp 32) 184 rfl w.heap.size 5 (.int .u8 0) 1 Tryz.underlying184 infoByte rfl _ 1 [.int .u8 (224+c / 4096)] _ rfl (zFd _ _ _ _ (Nat.le_refl _)) (by simp) _ rfl (by simp) rfl (by omega) (by omega) ?_)
 intro g1 cp1 w1 hown1 hb1 hz1
 try simp only [List.cons_append,List.nil_append] at hown1
 have hs1:w.heap.size<w1.heap.size:=by omega
 go_wp2
 rw [rounds_succ]
 go_wp2_with (at_builtin;refine zCW rfl (.tmp 24) (.tmp 32) 184 rfl w.heap.size 5 (.int .u8 0) 1 Tryz.underlying184 infoByte rfl _ 2 [.int .u8 (224+c / 4096),.int .u8 (128+c / 64 % 64)] _ rfl hown1 (by omega) _ rfl (by simp) rfl (by omega) (by omega) ?_)
 intro g2 cp2 w2 hown2 hb2 hz2
 try simp only [List.cons_append,List.nil_append] at hown2
 have hc:[Value.int .u8 (224+c / 4096),Value.int .u8 (128+c / 64 % 64),Value.int .u8 (128+c % 64)]=Lib.byteCells (enc c):=by
  unfold enc;rw [if_neg (by omega),if_neg (by omega),if_pos (by omega)];simp [Lib.byteCells]
  simp only [zAf (224+c / 4096) (by omega) (by omega),zAf (128+c / 64 % 64) (by omega) (by omega),zAf (128+c % 64) (by omega) (by omega)];simp
 rw [hc] at hown2;clear hc;have hcv:=zA9 (P:=Tryz.prog) hown2 Tryz.underlying184 Tryz.underlying5 Tryz.underlying9
 go_wp2
 rw [rounds_succ]
 go_wp2
 go_ret;exact ⟨rfl,(((Below.refl _ w).alloc (Nat.le_refl _) _).trans hb1).trans hb2⟩
theorem zMw (c:Int) (w:World) (h0:65536≤c) (h1:c≤1114111) :
  Calls Tryz.prog 137 #[.int .i32 c,.int .u8 240,.int .i64 4] w (Ret w (.string ⟨(enc c).toArray⟩)):=by
 have e0:bits .or .u8 240 (c / 262144 % 256)=240+c / 262144:=by rw [zMj _ (by omega) (by omega)];omega
 have e1:bits .or .u8 240 (c / 262144)=240+c / 262144:=by rw [zMj _ (by omega) (by omega)]
 go_enter Tryz.func137,Tryz.ntmps137
 go_wp2
 refine wp_loop_rounds 4 ?_
 rw [rounds_succ]
 go_wp2_with (at_builtin;refine zCW rfl (.tmp 24) (.tmp 32) 184 rfl w.heap.size 5 (.int .u8 0) 1 Tryz.underlying184 infoByte rfl _ 1 [.int .u8 (240+c / 262144)] _ rfl (zFd _ _ _ _ (Nat.le_refl _)) (by simp) _ rfl (by simp) rfl (by omega) (by omega) ?_)
 intro g1 cp1 w1 hown1 hb1 hz1
 try simp only [List.cons_append,List.nil_append] at hown1
 have hs1:w.heap.size<w1.heap.size:=by omega
 go_wp2
 rw [rounds_succ]
 go_wp2_with (at_builtin;refine zCW rfl (.tmp 24) (.tmp 32) 184 rfl w.heap.size 5 (.int .u8 0) 1 Tryz.underlying184 infoByte rfl _ 2 [.int .u8 (240+c / 262144),.int .u8 (128+c / 4096 % 64)] _ rfl hown1 (by omega) _ rfl (by simp) rfl (by omega) (by omega) ?_)
 intro g2 cp2 w2 hown2 hb2 hz2
 try simp only [List.cons_append,List.nil_append] at hown2
 have hs2:w.heap.size<w2.heap.size:=by omega
 go_wp2
 rw [rounds_succ]
 go_wp2_with (at_builtin;refine zCW rfl (.tmp 24) (.tmp 32) 184 rfl w.heap.size 5 (.int .u8 0) 1 Tryz.underlying184 infoByte rfl _ 3 [.int .u8 (240+c / 262144),.int .u8 (128+c / 4096 % 64),.int .u8 (128+c / 64 % 64)] _ rfl hown2 (by omega) _ rfl (by simp) rfl (by omega) (by omega) ?_)
 intro g3 cp3 w3 hown3 hb3 hz3
 try simp only [List.cons_append,List.nil_append] at hown3
 have hc:[Value.int .u8 (240+c / 262144),Value.int .u8 (128+c / 4096 % 64),Value.int .u8 (128+c / 64 % 64),Value.int .u8 (128+c % 64)]=Lib.byteCells (enc c):=by
  unfold enc;rw [if_neg (by omega),if_neg (by omega),if_neg (by omega)];simp [Lib.byteCells]
  simp only [zAf (240+c / 262144) (by omega) (by omega),zAf (128+c / 4096 % 64) (by omega) (by omega),zAf (128+c / 64 % 64) (by omega) (by omega),zAf (128+c % 64) (by omega) (by omega)];simp
 rw [hc] at hown3;clear hc;have hcv:=zA9 (P:=Tryz.prog) hown3 Tryz.underlying184 Tryz.underlying5 Tryz.underlying9
 go_wp2
 rw [rounds_succ]
 go_wp2
 go_ret;exact ⟨rfl,((((Below.refl _ w).alloc (Nat.le_refl _) _).trans hb1).trans hb2).trans hb3⟩
theorem zBH (c:Int) (w:World) :
  Calls Tryz.prog 128 #[.int .i32 c] w (Ret w (.tuple #[.string ⟨(putF c).toArray⟩,.bool (charB c)])):=by
 by_cases hc:charB c=true
 ·have hp:putF c=enc c:=by unfold putF;rw [if_pos hc]
  have hr:0≤c∧c≤1114111:=by simp [charB] at hc;omega
  obtain ⟨hr0,hr1⟩:=hr
  have HP:=Lib.hid hp
  clear hp
  go_enter Tryz.func128,Tryz.ntmps128
  go_wp2_with (first
   | (go_at_call 136;refine (zHY _ _).mono ?_;rintro e w' ⟨rfl,rfl⟩)
   | (go_at_call 137;first
     | ((with_reducible refine (zMt _ _ (by omega) (by omega)).mono ?_);rintro e w' ⟨rfl,hb⟩)
     | ((with_reducible refine (zMu _ _ (by omega) (by omega)).mono ?_);rintro e w' ⟨rfl,hb⟩)
     | ((with_reducible refine (zMv _ _ (by omega) (by omega)).mono ?_);rintro e w' ⟨rfl,hb⟩)
     | ((with_reducible refine (zMw _ _ (by omega) (by omega)).mono ?_);rintro e w' ⟨rfl,hb⟩)))
  all_goals go_ret2
  all_goals exact ⟨by rw [HP.out,hc];rfl,hb⟩
 ·have hc':charB c=false:=by simpa using hc
  clear hc;have HP:Hid (putF c=[]):=by unfold putF;rw [hc'];rfl
  go_enter Tryz.func128,Tryz.ntmps128
  go_wp2_with (go_at_call 136;refine (zHY _ _).mono ?_;rintro e w' ⟨rfl,rfl⟩)
  go_ret2;exact ⟨by rw [HP.out,hc'];rfl,Below.refl _ _⟩
end
section
open Go.RowKit
theorem zKv (x:Int) (w:World) (h0:0≤x) (h1:x<256) :
  Calls Tryz.prog 127 #[.int .u8 x] w fun e w'=>e=.returned (.tuple #[.int .i64 (headN x:Nat),.int .i32 (headC x)])∧w=w':=by
 go_enter Tryz.func127,Tryz.ntmps127
 go_wp2
 all_goals go_ret2
 all_goals (refine ⟨zKD ?_ ?_,rfl⟩)
 all_goals (simp only [headN,headC];repeat (first | rw [if_pos (by omega)] | rw [if_neg (by omega)])) <;> rfl
theorem zHA (x:Int) (w:World) (h0:0≤x) (h1:x<256) (n:Nat) (c:Int) (hn:headN x=n) (hc:headC x=c) :
  Calls Tryz.prog 127 #[.int .u8 x] w fun e w'=>e=.returned (.tuple #[.int .i64 (n:Nat),.int .i32 c])∧w=w':=by
 subst hn;subst hc;exact zKv x w h0 h1
theorem zKY (s:ByteArray) (w:World) (he:s.toList.isEmpty=true) :
  Calls Tryz.prog 107 #[.string s] w (Ret w (.tuple #[.int .i32 0,.int .i64 0])):=by
 go_enter Tryz.func107,Tryz.ntmps107
 go_wp2_with fail
 go_ret2;exact ⟨rfl,Below.refl _ _⟩
theorem zIz (s:ByteArray) (w:World) (b:UInt8) (_hs:s.size≤maxLen) (hp:0<s.size) (hne:s.toList.isEmpty=false) (he:s[0]=b) (h0:Hid (headN b.toNat=0)) :
  Calls Tryz.prog 107 #[.string s] w (Ret w (.tuple #[.int .i32 (-1),.int .i64 0])):=by
 unfold maxLen at _hs;have hb256:(b.toNat:Int)<256:=by have:=b.toNat_lt;omega
 go_enter Tryz.func107,Tryz.ntmps107
 go_wp2_with (go_at_call 127;refine (zHA _ _ (by omega) (by omega) 0 _ h0.out rfl).mono ?_;rintro e w' ⟨rfl,rfl⟩)
 go_ret2;exact ⟨rfl,Below.refl _ _⟩
theorem zIA (s:ByteArray) (w:World) (b:UInt8) (n:Nat) (hs:s.size≤maxLen) (hp:0<s.size) (hne:s.toList.isEmpty=false) (he:s[0]=b) (h0:Hid (headN b.toNat=n)) (hn:s.size<n) (_h4:n≤4) :
  Calls Tryz.prog 107 #[.string s] w (Ret w (.tuple #[.int .i32 (-1),.int .i64 0])):=by
 unfold maxLen at hs;have hb256:(b.toNat:Int)<256:=by have:=b.toNat_lt;omega
 have hz:((n:Int) == 0)=false:=by simp;omega
 have hlt:decide (s.size<n)=true:=by simp;omega
 go_enter Tryz.func107,Tryz.ntmps107
 go_wp2_with (go_at_call 127;refine (zHA _ _ (by omega) (by omega) n _ h0.out rfl).mono ?_;rintro e w' ⟨rfl,rfl⟩)
 go_ret2;exact ⟨rfl,Below.refl _ _⟩
theorem zMY:∀ x:Fin 256,(bits .and .u8 (x.val:Int) 192 != 128) = !decide (128≤(x.val:Int)∧(x.val:Int)<192):=by decide +kernel
theorem zLu (b:UInt8):(bits .and .u8 (b.toNat:Int) 192 != 128) = !contB b:=zMY ⟨b.toNat,b.toNat_lt⟩
theorem zIy (s:ByteArray) (w:World) (b:UInt8) (n L:Nat) (c0:Int) (m:List UInt8) (_hs:s.size≤maxLen) (hp:0<s.size) (hne:s.toList.isEmpty=false) (he:s[0]=b) (h0:Hid (headN b.toNat=n)) (hc0:Hid (headC b.toNat=c0))
  (hn:n≤s.size) (h1:1≤n) (h4:n≤4) (hL:Hid (L+1=n)) (hml:Hid (m.length=L)) (hm:Hid ((s.extract 1 n).data.toList=m)) (hm0:Hid ((s.extract 0 n).data.toList=b :: m)) (hbd:Hid (∀ k,k≤m.length→0≤foldC c0 (m.take k)∧foldC c0 (m.take k)<2097152))
  (V:Int × Nat) (hV:Hid (V=if m.all contB && (charB (foldC c0 m) && (enc (foldC c0 m) == b :: m)) then (foldC c0 m,n) else (-1,0))) :
  Calls Tryz.prog 107 #[.string s] w (Ret w (.tuple #[.int .i32 V.1,.int .i64 (V.2:Nat)])):=by
 unfold maxLen at _hs;have hb256:(b.toNat:Int)<256:=by have:=b.toNat_lt;omega
 have hz:((n:Int) == 0)=false:=by simp;omega
 have hlt:decide (s.size<n)=false:=by simp;omega
 have hsz:(s.extract 1 n).size=L:=by have:=hL.out;simp;omega
 obtain ⟨cap,wb,hcv,hbb,hbz,hbc⟩:=zGn (P:=Tryz.prog) w 9 184 5 (s.extract 1 n) L _ hsz hm.out Tryz.underlying9 Tryz.underlying184 Tryz.underlying5
 have hz':w.heap.size<wb.heap.size:=by omega
 have hL4:L≤3:=by have:=hL.out;omega
 have HBC:=Lib.hid hbc
 clear hbc hbz hsz
 go_enter Tryz.func107,Tryz.ntmps107
 go_wp2_with (go_at_call 127;refine (zHA _ _ (by omega) (by omega) n c0 h0.out hc0.out).mono ?_;rintro e w' ⟨rfl,rfl⟩)
 go_loop [5,31] (fun c i=>∃ k:Nat,k≤L∧i=.int .i64 k∧c=.int .i32 (foldC c0 (m.take k))∧(m.take k).all contB=true) (fun _ i=>L-(intOf i).toNat)
 case atStart=>exact ⟨0,Nat.zero_le _,rfl,rfl,rfl⟩
 case round =>
  obtain ⟨k,hk,rfl,rfl,hall⟩:=hrel
  have HA:=Lib.hid hall
  clear hall;have hbk:=hbd.out k (by have:=hml.out;omega)
  generalize hck:foldC c0 (m.take k)=ck at *
  have HCK:=Lib.hid hck
  clear hck;obtain ⟨hbk0,hbk1⟩:=hbk
  by_cases hlt:k<L
  ·obtain ⟨x,HX⟩:∃ x,Hid (m[k]? = some x):=⟨m[k]'(by have:=hml.out;omega),List.getElem?_eq_getElem _⟩
   have hcell:wb.cell? ⟨w.heap.size,k,none⟩=some (.int .u8 x.toNat):=by
    have hkm:k<m.length:=by have:=hml.out;omega
    rw [HBC.out k hkm];have:=HX.out
    rw [List.getElem?_eq_getElem hkm] at this;simp at this;rw [this]
   have hx1:(x.toNat:Int)<256:=by have:=x.toNat_lt;omega
   have ht:=zLu x
   by_cases hcx:contB x=true
   ·go_wp2
    go_round
    case rel =>
     have hkm:k<m.length:=by have:=hml.out;omega
     have htk:m.take (k+1)=m.take k++[x]:=by
      have:=HX.out
      rw [List.take_add_one,this];rfl
     refine ⟨k+1,by omega,by go_num,?_,?_⟩
     ·rw [htk,zIP,HCK.out]
     ·rw [htk,List.all_append,HA.out];simpa using hcx
    case measure=>simp [intOf];omega
   ·have hcx':contB x=false:=by simpa using hcx
    clear hcx
    go_wp2
    go_ret2;have hall:m.all contB=false:=by
     cases hh:m.all contB with
     | false=>rfl
     | true=>rw [List.all_eq_true] at hh;rw [hh x (List.mem_of_getElem? HX.out)] at hcx';cases hcx'
    have hv:V=(-1,0):=by rw [hV.out,hall];rfl
    exact ⟨by rw [hv];rfl,hbb⟩
  ·obtain rfl:k=L:=by omega
   have hfull:m.take k=m:=List.take_of_length_le (by have:=hml.out;omega)
   have HCK':Hid (foldC c0 m=ck):=by have:=HCK.out;rw [hfull] at this;exact this
   have hm0':(s.extract 0 n).toList=b :: m:=by rw [ByteArray.toList_eq];exact hm0.out
   by_cases hch:charB ck=true
   ·have hpf:putF ck=enc ck:=by unfold putF;rw [if_pos hch]
    have HPF:=Lib.hid hpf
    clear hpf;by_cases hq:(putF ck == (s.extract 0 n).toList)=true
    ·have hv:Hid (V=(ck,n)):=by
      have hq':(enc ck == b :: m)=true:=by rw [← HPF.out,← hm0'];exact hq
      have ha:m.all contB=true:=by have:=HA.out;rwa [hfull] at this
      show V=(ck,n)
      rw [hV.out,HCK'.out,ha,hch,hq'];rfl
     have HM:=Lib.hid hm0'
     clear hm0' hfull
     go_wp2_with (go_at_call 128;refine (zBH _ _).mono ?_;rintro e w2 ⟨rfl,hb2⟩)
     go_ret2;exact ⟨by rw [hv.out];rfl,hbb.trans (hb2.mono (by omega))⟩
    ·have hq0:(putF ck == (s.extract 0 n).toList)=false:=by simpa using hq
     clear hq;have hv:Hid (V=(-1,0)):=by
      have hq':(enc ck == b :: m)=false:=by rw [← HPF.out,← hm0'];exact hq0
      show V=(-1,0)
      rw [hV.out,HCK'.out,hq'];simp
     have HM:=Lib.hid hm0'
     clear hm0' hfull
     go_wp2_with (go_at_call 128;refine (zBH _ _).mono ?_;rintro e w2 ⟨rfl,hb2⟩)
     go_ret2;exact ⟨by rw [hv.out];rfl,hbb.trans (hb2.mono (by omega))⟩
   ·have hch':charB ck=false:=by simpa using hch
    clear hch;have hv:Hid (V=(-1,0)):=by
     show V=(-1,0)
     rw [hV.out,HCK'.out,hch'];simp
    clear hfull;have HM:=Lib.hid hm0'
    clear hm0'
    go_wp2_with (go_at_call 128;refine (zBH _ _).mono ?_;rintro e w2 ⟨rfl,hb2⟩)
    go_ret2;exact ⟨by rw [hv.out];rfl,hbb.trans (hb2.mono (by omega))⟩
theorem zAH (s:ByteArray):s.data.toList.length=s.size:=by rw [Array.length_toList];rfl
theorem zJY (s:ByteArray) (b:UInt8) (t:List UInt8) (h:s.data.toList=b :: t) (hp:0<s.size):s[0]=b:=by
 have:s.data[0]'hp=b:=by
  have h2:s.data.toList[0]? = some b:=by rw [h];rfl
  rw [Array.getElem?_toList,Array.getElem?_eq_getElem hp] at h2;exact Option.some.inj h2
 exact this
theorem zKX (s:ByteArray) (w:World) (hs:s.size≤maxLen) :
  Calls Tryz.prog 107 #[.string s] w (Ret w (.tuple #[.int .i32 (nextL s.data.toList).1,.int .i64 ((nextL s.data.toList).2:Nat)])):=by
 have hsz:=zAH s
 cases hl:s.data.toList with
 | nil =>
  exact zKY s w (by rw [ByteArray.toList_eq,hl];rfl)
 | cons b t =>
  have hp:0<s.size:=by rw [← hsz,hl];simp
  have hne:s.toList.isEmpty=false:=by rw [ByteArray.toList_eq,hl];rfl
  have he:=zJY s b t hl hp
  have hlen:t.length+1=s.size:=by rw [← hsz,hl];rfl
  have h4:=zFV b.toNat
  by_cases h0:headN b.toNat=0
  ·have hv:nextL (b :: t)=(-1,0):=by simp [nextL,h0]
   rw [hv];exact zIz s w b hs hp hne he h0
  ·by_cases hlt:t.length+1<headN b.toNat
   ·have hv:nextL (b :: t)=(-1,0):=by simp [nextL,h0,hlt]
    rw [hv];exact zIA s w b _ hs hp hne he rfl (by omega) h4
   ·have hv:nextL (b :: t)=if (t.take (headN b.toNat-1)).all contB && (charB (foldC (headC b.toNat) (t.take (headN b.toNat-1))) && (enc (foldC (headC b.toNat) (t.take (headN b.toNat-1))) == b :: t.take (headN b.toNat-1))) then (foldC (headC b.toNat) (t.take (headN b.toNat-1)),headN b.toNat) else (-1,0):=by
     simp only [nextL];rw [if_neg h0,if_neg hlt]
    have hml:(t.take (headN b.toNat-1)).length=headN b.toNat-1:=by rw [List.length_take];omega
    have hx1:(s.extract 1 (headN b.toNat)).data.toList=t.take (headN b.toNat-1):=by rw [Lib.extract_data,hl];rfl
    have hx0:(s.extract 0 (headN b.toNat)).data.toList=b :: t.take (headN b.toNat-1):=by
     rw [Lib.extract_data,hl];obtain ⟨q,hq⟩:∃ q,headN b.toNat=q+1:=⟨headN b.toNat-1,by omega⟩
     rw [hq];rfl
    exact zIy s w b (headN b.toNat) (headN b.toNat-1) (headC b.toNat) _ hs hp hne he rfl rfl (by omega) (by omega) h4 (by show _=_;omega) hml hx1 hx0 (zKq _ (by omega) _ (by omega)) _ hv
end
section
def writtenL (v:Bool) (c:Int):List UInt8 :=
 if c=13 then [38,35,49,51,59]
 else if c=9∧v=true then [38,35,57,59]
 else if c=10∧v=true then [38,35,49,48,59]
 else if c=38 then [38,97,109,112,59]
 else if c=60 then [38,108,116,59]
 else if c=62 then [38,103,116,59]
 else if c=34∧v=true then [38,113,117,111,116,59]
 else putF c
theorem zBZ (c:Int):(putF c).length≤4:=by
 unfold putF enc
 repeat (first | split | simp)
def charsF:Nat→List UInt8→Option (List Int)
 | 0,l=>if l=[] then some [] else none
 | f+1,l=>if l=[] then some [] else if (nextL l).2=0 then none else (charsF f (l.drop (nextL l).2)).map ((nextL l).1 :: ·)
theorem zG7 (f:Nat):∀ (l:List UInt8) (g:Nat),l.length≤f→l.length≤g→charsF f l=charsF g l:=by
 induction f with
 | zero =>
  intro l g h _;obtain rfl:l=[]:=List.eq_nil_of_length_eq_zero (by omega)
  cases g <;> simp [charsF]
 | succ f ih =>
  intro l g h h';by_cases hl:l=[]
  ·subst hl;cases g <;> simp [charsF]
  ·have hp:0<l.length:=List.length_pos_iff.2 hl
   obtain ⟨g,rfl⟩:∃ g',g=g'+1:=⟨g-1,by omega⟩
   simp only [charsF,if_neg hl];by_cases hn:(nextL l).2=0
   ·rw [if_pos hn,if_pos hn]
   ·rw [if_neg hn,if_neg hn,ih _ g (by rw [List.length_drop];omega) (by rw [List.length_drop];omega)]
def charsL (l:List UInt8):Option (List Int):=charsF l.length l
theorem zA0:charsL []=some []:=rfl
theorem zBa (l:List UInt8) (h:l≠[]) (hn:(nextL l).2=0):charsL l=none:=by
 unfold charsL;cases hl:l.length with
 | zero=>exact absurd (List.eq_nil_of_length_eq_zero hl) h
 | succ f=>simp only [charsF,if_neg h,if_pos hn]
theorem zA3 (l:List UInt8) (h:l≠[]) (hn:(nextL l).2≠0):charsL l=(charsL (l.drop (nextL l).2)).map ((nextL l).1 :: ·):=by
 unfold charsL;have hp:0<l.length:=List.length_pos_iff.2 h
 obtain ⟨f,hf⟩:∃ f,l.length=f+1:=⟨l.length-1,by omega⟩
 rw [hf];simp only [charsF,if_neg h,if_neg hn];rw [zG7 f _ (l.drop (nextL l).2).length (by rw [List.length_drop];omega) (Nat.le_refl _)]
def escL (v:Bool) (l:List UInt8):Option (List UInt8):=(charsL l).map (fun cs=>cs.flatMap (writtenL v))
theorem zA2 (l:List UInt8):(nextL l).2≤l.length∧(nextL l).2≤4:=by
 match l with
 | []=>simp [nextL]
 | b :: t =>
  have h4:=zFV b.toNat
  simp only [nextL]
  split
  ·simp
  ·split
   ·simp
   ·split
    ·simp;omega
    ·simp
end
end Go.Proofs.YtcombcoilpmnkaaGreat
namespace Go.Proofs
open Go.Shelf Go.RowKit
def Tryz.lays169_ren:Go.Shelf.Ren:=⟨fun | 169=>148 | n=>n,fun | 0=>0 | 3=>3 | 9=>9 | 37=>184 | 70=>199 | 72=>201 | 127=>209 | 5=>5 | n=>n,fun | n=>n⟩
theorem Tryz.lays169:Go.Proofs.Lays.n169 Tryz.prog Tryz.lays169_ren:={
 mixed:=by kernel_rfl
 f169:=Tryz.func148.trans (congrArg some (by kernel_rfl))
 t0:=Tryz.underlying0
 a0:=Tryz.isAgg0
 z0:=Tryz.sizeOf0
 v0:=Tryz.zeroValue0
 t3:=Tryz.underlying3
 a3:=Tryz.isAgg3
 z3:=Tryz.sizeOf3
 v3:=Tryz.zeroValue3
 t9:=Tryz.underlying9
 a9:=Tryz.isAgg9
 z9:=Tryz.sizeOf9
 v9:=Tryz.zeroValue9
 t37:=Tryz.underlying184
 a37:=Tryz.isAgg184
 z37:=Tryz.sizeOf184
 v37:=Tryz.zeroValue184
 t70:=Tryz.underlying199
 a70:=Tryz.isAgg199
 z70:=Tryz.sizeOf199
 v70:=Tryz.zeroValue199
 t72:=Tryz.underlying201
 a72:=Tryz.isAgg201
 z72:=Tryz.sizeOf201
 v72:=Tryz.zeroValue201
 t127:=Tryz.underlying209
 a127:=Tryz.isAgg209
 z127:=Tryz.sizeOf209
 v127:=Tryz.zeroValue209 }
theorem Tryz.Builder_Extra_169:Builder.Extra Tryz.prog Tryz.lays169_ren:={
 sizeBuilder:=by kernel_rfl
 liesBuilder:=by kernel_rfl
 t5:=Tryz.underlying5
 a5:=Tryz.isAgg5
 z5:=Tryz.sizeOf5
 v5:=Tryz.zeroValue5
 infoByte:=by kernel_rfl
 cellsByte:=by kernel_rfl
 sizeByte:=by kernel_rfl
 neB5:=by decide }
def Tryz.lays166_ren:Go.Shelf.Ren:=⟨fun | 166=>147 | 240=>153 | 276=>155 | n=>n,fun | 0=>0 | 3=>3 | 4=>4 | 9=>9 | 20=>20 | 37=>184 | 70=>199 | 72=>201 | 75=>203 | 164=>212 | 5=>5 | 80=>206 | n=>n,fun | n=>n⟩
theorem Tryz.lays166:Go.Proofs.Lays.n166 Tryz.prog Tryz.lays166_ren:={
 mixed:=by kernel_rfl
 f166:=Tryz.func147.trans (congrArg some (by kernel_rfl))
 f240:=Tryz.func153.trans (congrArg some (by kernel_rfl))
 f276:=Tryz.func155.trans (congrArg some (by kernel_rfl))
 t0:=Tryz.underlying0
 a0:=Tryz.isAgg0
 z0:=Tryz.sizeOf0
 v0:=Tryz.zeroValue0
 t3:=Tryz.underlying3
 a3:=Tryz.isAgg3
 z3:=Tryz.sizeOf3
 v3:=Tryz.zeroValue3
 t4:=Tryz.underlying4
 a4:=Tryz.isAgg4
 z4:=Tryz.sizeOf4
 v4:=Tryz.zeroValue4
 t9:=Tryz.underlying9
 a9:=Tryz.isAgg9
 z9:=Tryz.sizeOf9
 v9:=Tryz.zeroValue9
 t20:=Tryz.underlying20
 a20:=Tryz.isAgg20
 z20:=Tryz.sizeOf20
 v20:=Tryz.zeroValue20
 t37:=Tryz.underlying184
 a37:=Tryz.isAgg184
 z37:=Tryz.sizeOf184
 v37:=Tryz.zeroValue184
 t70:=Tryz.underlying199
 a70:=Tryz.isAgg199
 z70:=Tryz.sizeOf199
 v70:=Tryz.zeroValue199
 t72:=Tryz.underlying201
 a72:=Tryz.isAgg201
 z72:=Tryz.sizeOf201
 v72:=Tryz.zeroValue201
 t75:=Tryz.underlying203
 a75:=Tryz.isAgg203
 z75:=Tryz.sizeOf203
 v75:=Tryz.zeroValue203
 t164:=Tryz.underlying212
 a164:=Tryz.isAgg212
 z164:=Tryz.sizeOf212
 v164:=Tryz.zeroValue212 }
theorem Tryz.Builder_Extra_166:Builder.Extra Tryz.prog Tryz.lays166_ren:={
 sizeBuilder:=by kernel_rfl
 liesBuilder:=by kernel_rfl
 t5:=Tryz.underlying5
 a5:=Tryz.isAgg5
 z5:=Tryz.sizeOf5
 v5:=Tryz.zeroValue5
 infoByte:=by kernel_rfl
 cellsByte:=by kernel_rfl
 sizeByte:=by kernel_rfl
 neB5:=by decide }
theorem Tryz.Builder_WriteString (B b:Nat) (bs:List Value) (s:ByteArray) (w:World) (h:Lib.IsBuilder 201 5 B b bs w) (hlen:bs.length+s.size≤140737488355328) (hBw:B≤w.heap.size) :
  Calls Tryz.prog 147 #[.pointer (some ⟨b,0,none⟩),.string s] w fun e w'=>e=.returned (.tuple #[.int .i64 s.size,.nilIface])∧(Lib.BuilderAt 201 5 B b (.pointer (some ⟨b,0,none⟩)) (bs++Lib.strCells s) w'∧Below B w w'):=Any.Builder_WriteString Tryz.lays166 Tryz.Builder_Extra_166 B b bs s w h hlen hBw
theorem Tryz.Builder_String (B b:Nat) (l:List UInt8) (w:World) (h:Lib.IsBuilder 201 5 B b (Lib.byteCells l) w) (hBw:B≤w.heap.size) :
  Calls Tryz.prog 148 #[.pointer (some ⟨b,0,none⟩)] w fun e w'=>e=.returned (.string ⟨l.toArray⟩)∧Below B w w':=Any.Builder_String_any Tryz.lays169 Tryz.Builder_Extra_169 B b l w h hBw
end Go.Proofs
namespace Go.Proofs.YtcombcoilpmnkaaGreat
set_option maxRecDepth 100000
set_option maxHeartbeats 16000000
section
open Go.RowKit
theorem zAl (s:ByteArray) (w:World) (hs:s.size≤maxLen) (c:Int) (n:Nat) (h:Hid (nextL s.data.toList=(c,n))) :
  Calls Tryz.prog 107 #[.string s] w (Ret w (.tuple #[.int .i32 c,.int .i64 (n:Nat)])):=by
 have:=zKX s w hs
 rw [h.out] at this;exact this
end
section
open Go.RowKit
/-! The document's Char and Put. -/
theorem zB1 (c:Int) (w:World) :
  Calls Tryz.prog 138 #[.int .i32 c] w fun e w'=>e=.returned (.bool (charB c))∧w=w':=by
 go_enter Tryz.func138,Tryz.ntmps138
 go_wp2
 all_goals go_ret
 all_goals (refine ⟨congrArg (fun b=>Ending.returned (.bool b)) ?_,rfl⟩;rw [Bool.eq_iff_iff];simp [charB];try omega)
theorem zFm (c f:Int) (w:World) (h0:0≤c) (h1:c≤1114111) (hf:1≤f) (hf1:f≤4096) :
  Calls Tryz.prog 139 #[.int .i32 c,.int .i32 f] w fun e w'=>e=.returned (.int .u8 (128+c / f % 64))∧w=w':=by
 have hd0:0≤c / f:=Int.ediv_nonneg h0 (by omega)
 have hd1:c / f≤c:=Int.ediv_le_self _ h0
 have hb:0≤c / f % 64∧c / f % 64<64:=by omega
 obtain ⟨hb0,hb1⟩:=hb
 go_enter Tryz.func139,Tryz.ntmps139
 go_wp2
 go_ret;refine ⟨?_,rfl⟩
 rfl
theorem zAZ (c:Int) (w:World) :
  Calls Tryz.prog 129 #[.int .i32 c] w (Ret w (.tuple #[.string ⟨(putF c).toArray⟩,.bool (charB c)])):=by
 by_cases hc:charB c=true
 ·have hp:putF c=enc c:=by unfold putF;rw [if_pos hc]
  have hr:0≤c∧c≤1114111:=by simp [charB] at hc;omega
  obtain ⟨hr0,hr1⟩:=hr
  have HP:=Lib.hid hp
  clear hp;rcases (by omega:c<128∨(128≤c∧c<2048)∨(2048≤c∧c<65536)∨65536≤c) with h | ⟨h,h'⟩ | ⟨h,h'⟩ | h
  ·have hx:(#[Value.int .u8 (c)]:Array Value).toList=Lib.byteCells (enc c):=by
    unfold enc;rw [if_pos (by omega)];simp only [Lib.byteCells,List.map_cons,List.map_nil]
    simp only [zAf (c) (by omega) (by omega)]
   have hln:(enc c).length=1:=by unfold enc;rw [if_pos (by omega)];rfl
   have hcv:=zBO (P:=Tryz.prog) (enc c) _ hx (by rw [hln];decide) Tryz.underlying184 Tryz.underlying5 Tryz.underlying9
   rw [hln] at hcv;clear hx hln
   go_enter Tryz.func129,Tryz.ntmps129
   go_wp2_with (first
    | (go_at_call 138;refine (zB1 _ _).mono ?_;rintro e w' ⟨rfl,rfl⟩)
    | (go_at_call 139;refine (zFm _ _ _ (by omega) (by omega) (by omega) (by omega)).mono ?_;rintro e w' ⟨rfl,rfl⟩))
   go_ret2;exact ⟨by rw [HP.out,hc];rfl,(Below.refl _ _).alloc (Nat.le_refl _) _⟩
  ·have hx:(#[Value.int .u8 (192+c / 64),Value.int .u8 (128+c % 64)]:Array Value).toList=Lib.byteCells (enc c):=by
    unfold enc;rw [if_neg (by omega),if_pos (by omega)];simp only [Lib.byteCells,List.map_cons,List.map_nil]
    simp only [zAf (192+c / 64) (by omega) (by omega),zAf (128+c % 64) (by omega) (by omega)]
   have hln:(enc c).length=2:=by unfold enc;rw [if_neg (by omega),if_pos (by omega)];rfl
   have hcv:=zBO (P:=Tryz.prog) (enc c) _ hx (by rw [hln];decide) Tryz.underlying184 Tryz.underlying5 Tryz.underlying9
   rw [hln] at hcv;clear hx hln
   go_enter Tryz.func129,Tryz.ntmps129
   go_wp2_with (first
    | (go_at_call 138;refine (zB1 _ _).mono ?_;rintro e w' ⟨rfl,rfl⟩)
    | (go_at_call 139;refine (zFm _ _ _ (by omega) (by omega) (by omega) (by omega)).mono ?_;rintro e w' ⟨rfl,rfl⟩))
   go_ret2;exact ⟨by rw [HP.out,hc];rfl,(Below.refl _ _).alloc (Nat.le_refl _) _⟩
  ·have hx:(#[Value.int .u8 (224+c / 4096),Value.int .u8 (128+c / 64 % 64),Value.int .u8 (128+c % 64)]:Array Value).toList=Lib.byteCells (enc c):=by
    unfold enc;rw [if_neg (by omega),if_neg (by omega),if_pos (by omega)];simp only [Lib.byteCells,List.map_cons,List.map_nil]
    simp only [zAf (224+c / 4096) (by omega) (by omega),zAf (128+c / 64 % 64) (by omega) (by omega),zAf (128+c % 64) (by omega) (by omega)]
   have hln:(enc c).length=3:=by unfold enc;rw [if_neg (by omega),if_neg (by omega),if_pos (by omega)];rfl
   have hcv:=zBO (P:=Tryz.prog) (enc c) _ hx (by rw [hln];decide) Tryz.underlying184 Tryz.underlying5 Tryz.underlying9
   rw [hln] at hcv;clear hx hln
   go_enter Tryz.func129,Tryz.ntmps129
   go_wp2_with (first
    | (go_at_call 138;refine (zB1 _ _).mono ?_;rintro e w' ⟨rfl,rfl⟩)
    | (go_at_call 139;refine (zFm _ _ _ (by omega) (by omega) (by omega) (by omega)).mono ?_;rintro e w' ⟨rfl,rfl⟩))
   go_ret2;exact ⟨by rw [HP.out,hc];rfl,(Below.refl _ _).alloc (Nat.le_refl _) _⟩
  ·have hx:(#[Value.int .u8 (240+c / 262144),Value.int .u8 (128+c / 4096 % 64),Value.int .u8 (128+c / 64 % 64),Value.int .u8 (128+c % 64)]:Array Value).toList=Lib.byteCells (enc c):=by
    unfold enc;rw [if_neg (by omega),if_neg (by omega),if_neg (by omega)];simp only [Lib.byteCells,List.map_cons,List.map_nil]
    simp only [zAf (240+c / 262144) (by omega) (by omega),zAf (128+c / 4096 % 64) (by omega) (by omega),zAf (128+c / 64 % 64) (by omega) (by omega),zAf (128+c % 64) (by omega) (by omega)]
   have hln:(enc c).length=4:=by unfold enc;rw [if_neg (by omega),if_neg (by omega),if_neg (by omega)];rfl
   have hcv:=zBO (P:=Tryz.prog) (enc c) _ hx (by rw [hln];decide) Tryz.underlying184 Tryz.underlying5 Tryz.underlying9
   rw [hln] at hcv;clear hx hln
   go_enter Tryz.func129,Tryz.ntmps129
   go_wp2_with (first
    | (go_at_call 138;refine (zB1 _ _).mono ?_;rintro e w' ⟨rfl,rfl⟩)
    | (go_at_call 139;refine (zFm _ _ _ (by omega) (by omega) (by omega) (by omega)).mono ?_;rintro e w' ⟨rfl,rfl⟩))
   go_ret2;exact ⟨by rw [HP.out,hc];rfl,(Below.refl _ _).alloc (Nat.le_refl _) _⟩
 ·have hc':charB c=false:=by simpa using hc
  clear hc;have HP:Hid (putF c=[]):=by unfold putF;rw [hc'];rfl
  go_enter Tryz.func129,Tryz.ntmps129
  go_wp2_with (go_at_call 138;refine (zB1 _ _).mono ?_;rintro e w' ⟨rfl,rfl⟩)
  go_ret2;exact ⟨by rw [HP.out,hc'];rfl,Below.refl _ _⟩
end
section
open Go.RowKit
theorem zAv (s:ByteArray) (k:Nat) (x:UInt8) (h:s.data.toList[k]? = some x) (hk:k<s.size):s[k]=x:=by
 have:s.data[k]'hk=x:=by
  rw [Array.getElem?_toList,Array.getElem?_eq_getElem hk] at h;exact Option.some.inj h
 exact this
theorem zI4 (s:ByteArray) (w:World) (he:s.toList.isEmpty=true) :
  Calls Tryz.prog 117 #[.string s] w (Ret w (.tuple #[.int .i32 0,.int .i64 0])):=by
 go_enter Tryz.func117,Tryz.ntmps117
 go_wp2_with fail
 go_ret2;exact ⟨rfl,Below.refl _ _⟩
theorem zFy (s:ByteArray) (w:World) (b:UInt8) (c0:Int) (m:List UInt8) (hs:s.size≤maxLen) (hp:0<s.size) (hne:s.toList.isEmpty=false) (he:s[0]=b) (hr0:(b.toNat:Int)<192) (hc0:Hid (c0=(b.toNat:Int)))
  (_hn:1≤s.size) (hml:Hid (m.length=0)) (hm0:Hid ((s.extract 0 1).toList=b :: m)) (_hmx:Hid (∀ k x,m[k]? = some x→s.data.toList[k+1]? = some x)) (hbd:Hid (∀ k,k≤m.length → -1000000<foldR c0 (m.take k)∧foldR c0 (m.take k)<4194304))
  (V:Int × Nat) (hV:Hid (V=if charB (foldR c0 m) && (enc (foldR c0 m) == b :: m) then (foldR c0 m,1) else (-1,0))) :
  Calls Tryz.prog 117 #[.string s] w (Ret w (.tuple #[.int .i32 V.1,.int .i64 (V.2:Nat)])):=by
 unfold maxLen at hs;have hb256:(b.toNat:Int)<256:=by have:=b.toNat_lt;omega
 go_enter Tryz.func117,Tryz.ntmps117
 go_wp2_with fail
 go_loop [5,6] (fun c i=>∃ k:Nat,k≤0∧i=.int .i64 ((k+1:Nat):Int)∧c=.int .i32 (foldR c0 (m.take k))) (fun _ i=>5-(intOf i).toNat)
 case atStart=>exact ⟨0,Nat.zero_le _,rfl,by rw [hc0.out];rfl⟩
 case round =>
  obtain ⟨k,hk,rfl,rfl⟩:=hrel
  have hbk:=hbd.out k (by have:=hml.out;omega)
  generalize hck:foldR c0 (m.take k)=ck at *
  have HCK:=Lib.hid hck
  clear hck;obtain ⟨hbk0,hbk1⟩:=hbk
  by_cases hlt:k<0
  ·omega
  ·obtain rfl:k=0:=by omega
   have hfull:m.take 0=m:=List.take_of_length_le (by have:=hml.out;omega)
   have HCK':Hid (foldR c0 m=ck):=by have:=HCK.out;rw [hfull] at this;exact this
   clear hfull;by_cases hch:charB ck=true
   ·have hpf:putF ck=enc ck:=by unfold putF;rw [if_pos hch]
    have HPF:=Lib.hid hpf
    clear hpf;by_cases hq:(putF ck == (s.extract 0 1).toList)=true
    ·have hv:Hid (V=(ck,1)):=by
      have hq':(enc ck == b :: m)=true:=by rw [← HPF.out,← hm0.out];exact hq
      show V=(ck,1)
      rw [hV.out,HCK'.out,hch,hq'];rfl
     go_wp2_with (go_at_call 129;refine (zAZ _ _).mono ?_;rintro e w2 ⟨rfl,hb2⟩)
     go_ret2;exact ⟨by rw [hv.out];rfl,hb2⟩
    ·have hq0:(putF ck == (s.extract 0 1).toList)=false:=by simpa using hq
     clear hq;have hv:Hid (V=(-1,0)):=by
      have hq':(enc ck == b :: m)=false:=by rw [← HPF.out,← hm0.out];exact hq0
      show V=(-1,0)
      rw [hV.out,HCK'.out,hq'];simp
     go_wp2_with (go_at_call 129;refine (zAZ _ _).mono ?_;rintro e w2 ⟨rfl,hb2⟩)
     go_ret2;exact ⟨by rw [hv.out];rfl,hb2⟩
   ·have hch':charB ck=false:=by simpa using hch
    clear hch;have hv:Hid (V=(-1,0)):=by
     show V=(-1,0)
     rw [hV.out,HCK'.out,hch'];simp
    go_wp2_with (go_at_call 129;refine (zAZ _ _).mono ?_;rintro e w2 ⟨rfl,hb2⟩)
    go_ret2;exact ⟨by rw [hv.out];rfl,hb2⟩
theorem zFH (s:ByteArray) (w:World) (b:UInt8) (hs:s.size≤maxLen) (hp:0<s.size) (hne:s.toList.isEmpty=false) (he:s[0]=b) (hr0:192≤(b.toNat:Int)) (hr1:(b.toNat:Int)<224) (hn:s.size<2) :
  Calls Tryz.prog 117 #[.string s] w (Ret w (.tuple #[.int .i32 (-1),.int .i64 0])):=by
 unfold maxLen at hs;have hb256:(b.toNat:Int)<256:=by have:=b.toNat_lt;omega
 go_enter Tryz.func117,Tryz.ntmps117
 go_wp2_with fail
 go_ret2;exact ⟨rfl,Below.refl _ _⟩
theorem zFz (s:ByteArray) (w:World) (b:UInt8) (c0:Int) (m:List UInt8) (hs:s.size≤maxLen) (hp:0<s.size) (hne:s.toList.isEmpty=false) (he:s[0]=b) (hr0:192≤(b.toNat:Int)) (hr1:(b.toNat:Int)<224) (hc0:Hid (c0=(b.toNat:Int)-192))
  (hn:2≤s.size) (hml:Hid (m.length=1)) (hm0:Hid ((s.extract 0 2).toList=b :: m)) (hmx:Hid (∀ k x,m[k]? = some x→s.data.toList[k+1]? = some x)) (hbd:Hid (∀ k,k≤m.length → -1000000<foldR c0 (m.take k)∧foldR c0 (m.take k)<4194304))
  (V:Int × Nat) (hV:Hid (V=if charB (foldR c0 m) && (enc (foldR c0 m) == b :: m) then (foldR c0 m,2) else (-1,0))) :
  Calls Tryz.prog 117 #[.string s] w (Ret w (.tuple #[.int .i32 V.1,.int .i64 (V.2:Nat)])):=by
 unfold maxLen at hs;have hb256:(b.toNat:Int)<256:=by have:=b.toNat_lt;omega
 go_enter Tryz.func117,Tryz.ntmps117
 go_wp2_with fail
 go_loop [5,6] (fun c i=>∃ k:Nat,k≤1∧i=.int .i64 ((k+1:Nat):Int)∧c=.int .i32 (foldR c0 (m.take k))) (fun _ i=>5-(intOf i).toNat)
 case atStart=>exact ⟨0,Nat.zero_le _,rfl,by rw [hc0.out];rfl⟩
 case round =>
  obtain ⟨k,hk,rfl,rfl⟩:=hrel
  have hbk:=hbd.out k (by have:=hml.out;omega)
  generalize hck:foldR c0 (m.take k)=ck at *
  have HCK:=Lib.hid hck
  clear hck;obtain ⟨hbk0,hbk1⟩:=hbk
  by_cases hlt:k<1
  ·obtain ⟨x,HX⟩:∃ x,Hid (m[k]? = some x):=⟨m[k]'(by have:=hml.out;omega),List.getElem?_eq_getElem _⟩
   have hks:k+1<s.size:=by omega
   have hsx:s[k+1]=x:=zAv s (k+1) x (hmx.out k x HX.out) hks
   have hx1:(x.toNat:Int)<256:=by have:=x.toNat_lt;omega
   go_wp2_with fail
   go_round
   case rel =>
    have htk:m.take (k+1)=m.take k++[x]:=by
     have:=HX.out
     rw [List.take_add_one,this];rfl
    exact ⟨k+1,by omega,by go_num,by rw [htk,zDH,HCK.out]⟩
   case measure=>simp [intOf];omega
  ·obtain rfl:k=1:=by omega
   have hfull:m.take 1=m:=List.take_of_length_le (by have:=hml.out;omega)
   have HCK':Hid (foldR c0 m=ck):=by have:=HCK.out;rw [hfull] at this;exact this
   clear hfull;by_cases hch:charB ck=true
   ·have hpf:putF ck=enc ck:=by unfold putF;rw [if_pos hch]
    have HPF:=Lib.hid hpf
    clear hpf;by_cases hq:(putF ck == (s.extract 0 2).toList)=true
    ·have hv:Hid (V=(ck,2)):=by
      have hq':(enc ck == b :: m)=true:=by rw [← HPF.out,← hm0.out];exact hq
      show V=(ck,2)
      rw [hV.out,HCK'.out,hch,hq'];rfl
     go_wp2_with (go_at_call 129;refine (zAZ _ _).mono ?_;rintro e w2 ⟨rfl,hb2⟩)
     go_ret2;exact ⟨by rw [hv.out];rfl,hb2⟩
    ·have hq0:(putF ck == (s.extract 0 2).toList)=false:=by simpa using hq
     clear hq;have hv:Hid (V=(-1,0)):=by
      have hq':(enc ck == b :: m)=false:=by rw [← HPF.out,← hm0.out];exact hq0
      show V=(-1,0)
      rw [hV.out,HCK'.out,hq'];simp
     go_wp2_with (go_at_call 129;refine (zAZ _ _).mono ?_;rintro e w2 ⟨rfl,hb2⟩)
     go_ret2;exact ⟨by rw [hv.out];rfl,hb2⟩
   ·have hch':charB ck=false:=by simpa using hch
    clear hch;have hv:Hid (V=(-1,0)):=by
     show V=(-1,0)
     rw [hV.out,HCK'.out,hch'];simp
    go_wp2_with (go_at_call 129;refine (zAZ _ _).mono ?_;rintro e w2 ⟨rfl,hb2⟩)
    go_ret2;exact ⟨by rw [hv.out];rfl,hb2⟩
theorem zFI (s:ByteArray) (w:World) (b:UInt8) (hs:s.size≤maxLen) (hp:0<s.size) (hne:s.toList.isEmpty=false) (he:s[0]=b) (hr0:224≤(b.toNat:Int)) (hr1:(b.toNat:Int)<240) (hn:s.size<3) :
  Calls Tryz.prog 117 #[.string s] w (Ret w (.tuple #[.int .i32 (-1),.int .i64 0])):=by
 unfold maxLen at hs;have hb256:(b.toNat:Int)<256:=by have:=b.toNat_lt;omega
 go_enter Tryz.func117,Tryz.ntmps117
 go_wp2_with fail
 go_ret2;exact ⟨rfl,Below.refl _ _⟩
theorem zF0 (s:ByteArray) (w:World) (b:UInt8) (c0:Int) (m:List UInt8) (hs:s.size≤maxLen) (hp:0<s.size) (hne:s.toList.isEmpty=false) (he:s[0]=b) (hr0:224≤(b.toNat:Int)) (hr1:(b.toNat:Int)<240) (hc0:Hid (c0=(b.toNat:Int)-224))
  (hn:3≤s.size) (hml:Hid (m.length=2)) (hm0:Hid ((s.extract 0 3).toList=b :: m)) (hmx:Hid (∀ k x,m[k]? = some x→s.data.toList[k+1]? = some x)) (hbd:Hid (∀ k,k≤m.length → -1000000<foldR c0 (m.take k)∧foldR c0 (m.take k)<4194304))
  (V:Int × Nat) (hV:Hid (V=if charB (foldR c0 m) && (enc (foldR c0 m) == b :: m) then (foldR c0 m,3) else (-1,0))) :
  Calls Tryz.prog 117 #[.string s] w (Ret w (.tuple #[.int .i32 V.1,.int .i64 (V.2:Nat)])):=by
 unfold maxLen at hs;have hb256:(b.toNat:Int)<256:=by have:=b.toNat_lt;omega
 go_enter Tryz.func117,Tryz.ntmps117
 go_wp2_with fail
 go_loop [5,6] (fun c i=>∃ k:Nat,k≤2∧i=.int .i64 ((k+1:Nat):Int)∧c=.int .i32 (foldR c0 (m.take k))) (fun _ i=>5-(intOf i).toNat)
 case atStart=>exact ⟨0,Nat.zero_le _,rfl,by rw [hc0.out];rfl⟩
 case round =>
  obtain ⟨k,hk,rfl,rfl⟩:=hrel
  have hbk:=hbd.out k (by have:=hml.out;omega)
  generalize hck:foldR c0 (m.take k)=ck at *
  have HCK:=Lib.hid hck
  clear hck;obtain ⟨hbk0,hbk1⟩:=hbk
  by_cases hlt:k<2
  ·obtain ⟨x,HX⟩:∃ x,Hid (m[k]? = some x):=⟨m[k]'(by have:=hml.out;omega),List.getElem?_eq_getElem _⟩
   have hks:k+1<s.size:=by omega
   have hsx:s[k+1]=x:=zAv s (k+1) x (hmx.out k x HX.out) hks
   have hx1:(x.toNat:Int)<256:=by have:=x.toNat_lt;omega
   go_wp2_with fail
   go_round
   case rel =>
    have htk:m.take (k+1)=m.take k++[x]:=by
     have:=HX.out
     rw [List.take_add_one,this];rfl
    exact ⟨k+1,by omega,by go_num,by rw [htk,zDH,HCK.out]⟩
   case measure=>simp [intOf];omega
  ·obtain rfl:k=2:=by omega
   have hfull:m.take 2=m:=List.take_of_length_le (by have:=hml.out;omega)
   have HCK':Hid (foldR c0 m=ck):=by have:=HCK.out;rw [hfull] at this;exact this
   clear hfull;by_cases hch:charB ck=true
   ·have hpf:putF ck=enc ck:=by unfold putF;rw [if_pos hch]
    have HPF:=Lib.hid hpf
    clear hpf;by_cases hq:(putF ck == (s.extract 0 3).toList)=true
    ·have hv:Hid (V=(ck,3)):=by
      have hq':(enc ck == b :: m)=true:=by rw [← HPF.out,← hm0.out];exact hq
      show V=(ck,3)
      rw [hV.out,HCK'.out,hch,hq'];rfl
     go_wp2_with (go_at_call 129;refine (zAZ _ _).mono ?_;rintro e w2 ⟨rfl,hb2⟩)
     go_ret2;exact ⟨by rw [hv.out];rfl,hb2⟩
    ·have hq0:(putF ck == (s.extract 0 3).toList)=false:=by simpa using hq
     clear hq;have hv:Hid (V=(-1,0)):=by
      have hq':(enc ck == b :: m)=false:=by rw [← HPF.out,← hm0.out];exact hq0
      show V=(-1,0)
      rw [hV.out,HCK'.out,hq'];simp
     go_wp2_with (go_at_call 129;refine (zAZ _ _).mono ?_;rintro e w2 ⟨rfl,hb2⟩)
     go_ret2;exact ⟨by rw [hv.out];rfl,hb2⟩
   ·have hch':charB ck=false:=by simpa using hch
    clear hch;have hv:Hid (V=(-1,0)):=by
     show V=(-1,0)
     rw [hV.out,HCK'.out,hch'];simp
    go_wp2_with (go_at_call 129;refine (zAZ _ _).mono ?_;rintro e w2 ⟨rfl,hb2⟩)
    go_ret2;exact ⟨by rw [hv.out];rfl,hb2⟩
theorem zFJ (s:ByteArray) (w:World) (b:UInt8) (hs:s.size≤maxLen) (hp:0<s.size) (hne:s.toList.isEmpty=false) (he:s[0]=b) (hr0:240≤(b.toNat:Int)) (hr1:(b.toNat:Int)<248) (hn:s.size<4) :
  Calls Tryz.prog 117 #[.string s] w (Ret w (.tuple #[.int .i32 (-1),.int .i64 0])):=by
 unfold maxLen at hs;have hb256:(b.toNat:Int)<256:=by have:=b.toNat_lt;omega
 go_enter Tryz.func117,Tryz.ntmps117
 go_wp2_with fail
 go_ret2;exact ⟨rfl,Below.refl _ _⟩
theorem zF1 (s:ByteArray) (w:World) (b:UInt8) (c0:Int) (m:List UInt8) (hs:s.size≤maxLen) (hp:0<s.size) (hne:s.toList.isEmpty=false) (he:s[0]=b) (hr0:240≤(b.toNat:Int)) (hr1:(b.toNat:Int)<248) (hc0:Hid (c0=(b.toNat:Int)-240))
  (hn:4≤s.size) (hml:Hid (m.length=3)) (hm0:Hid ((s.extract 0 4).toList=b :: m)) (hmx:Hid (∀ k x,m[k]? = some x→s.data.toList[k+1]? = some x)) (hbd:Hid (∀ k,k≤m.length → -1000000<foldR c0 (m.take k)∧foldR c0 (m.take k)<4194304))
  (V:Int × Nat) (hV:Hid (V=if charB (foldR c0 m) && (enc (foldR c0 m) == b :: m) then (foldR c0 m,4) else (-1,0))) :
  Calls Tryz.prog 117 #[.string s] w (Ret w (.tuple #[.int .i32 V.1,.int .i64 (V.2:Nat)])):=by
 unfold maxLen at hs;have hb256:(b.toNat:Int)<256:=by have:=b.toNat_lt;omega
 go_enter Tryz.func117,Tryz.ntmps117
 go_wp2_with fail
 go_loop [5,6] (fun c i=>∃ k:Nat,k≤3∧i=.int .i64 ((k+1:Nat):Int)∧c=.int .i32 (foldR c0 (m.take k))) (fun _ i=>5-(intOf i).toNat)
 case atStart=>exact ⟨0,Nat.zero_le _,rfl,by rw [hc0.out];rfl⟩
 case round =>
  obtain ⟨k,hk,rfl,rfl⟩:=hrel
  have hbk:=hbd.out k (by have:=hml.out;omega)
  generalize hck:foldR c0 (m.take k)=ck at *
  have HCK:=Lib.hid hck
  clear hck;obtain ⟨hbk0,hbk1⟩:=hbk
  by_cases hlt:k<3
  ·obtain ⟨x,HX⟩:∃ x,Hid (m[k]? = some x):=⟨m[k]'(by have:=hml.out;omega),List.getElem?_eq_getElem _⟩
   have hks:k+1<s.size:=by omega
   have hsx:s[k+1]=x:=zAv s (k+1) x (hmx.out k x HX.out) hks
   have hx1:(x.toNat:Int)<256:=by have:=x.toNat_lt;omega
   go_wp2_with fail
   go_round
   case rel =>
    have htk:m.take (k+1)=m.take k++[x]:=by
     have:=HX.out
     rw [List.take_add_one,this];rfl
    exact ⟨k+1,by omega,by go_num,by rw [htk,zDH,HCK.out]⟩
   case measure=>simp [intOf];omega
  ·obtain rfl:k=3:=by omega
   have hfull:m.take 3=m:=List.take_of_length_le (by have:=hml.out;omega)
   have HCK':Hid (foldR c0 m=ck):=by have:=HCK.out;rw [hfull] at this;exact this
   clear hfull;by_cases hch:charB ck=true
   ·have hpf:putF ck=enc ck:=by unfold putF;rw [if_pos hch]
    have HPF:=Lib.hid hpf
    clear hpf;by_cases hq:(putF ck == (s.extract 0 4).toList)=true
    ·have hv:Hid (V=(ck,4)):=by
      have hq':(enc ck == b :: m)=true:=by rw [← HPF.out,← hm0.out];exact hq
      show V=(ck,4)
      rw [hV.out,HCK'.out,hch,hq'];rfl
     go_wp2_with (go_at_call 129;refine (zAZ _ _).mono ?_;rintro e w2 ⟨rfl,hb2⟩)
     go_ret2;exact ⟨by rw [hv.out];rfl,hb2⟩
    ·have hq0:(putF ck == (s.extract 0 4).toList)=false:=by simpa using hq
     clear hq;have hv:Hid (V=(-1,0)):=by
      have hq':(enc ck == b :: m)=false:=by rw [← HPF.out,← hm0.out];exact hq0
      show V=(-1,0)
      rw [hV.out,HCK'.out,hq'];simp
     go_wp2_with (go_at_call 129;refine (zAZ _ _).mono ?_;rintro e w2 ⟨rfl,hb2⟩)
     go_ret2;exact ⟨by rw [hv.out];rfl,hb2⟩
   ·have hch':charB ck=false:=by simpa using hch
    clear hch;have hv:Hid (V=(-1,0)):=by
     show V=(-1,0)
     rw [hV.out,HCK'.out,hch'];simp
    go_wp2_with (go_at_call 129;refine (zAZ _ _).mono ?_;rintro e w2 ⟨rfl,hb2⟩)
    go_ret2;exact ⟨by rw [hv.out];rfl,hb2⟩
theorem zF2 (s:ByteArray) (w:World) (b:UInt8) (c0:Int) (m:List UInt8) (hs:s.size≤maxLen) (hp:0<s.size) (hne:s.toList.isEmpty=false) (he:s[0]=b) (hr0:248≤(b.toNat:Int)) (hc0:Hid (c0=(b.toNat:Int)))
  (_hn:1≤s.size) (hml:Hid (m.length=0)) (hm0:Hid ((s.extract 0 1).toList=b :: m)) (_hmx:Hid (∀ k x,m[k]? = some x→s.data.toList[k+1]? = some x)) (hbd:Hid (∀ k,k≤m.length → -1000000<foldR c0 (m.take k)∧foldR c0 (m.take k)<4194304))
  (V:Int × Nat) (hV:Hid (V=if charB (foldR c0 m) && (enc (foldR c0 m) == b :: m) then (foldR c0 m,1) else (-1,0))) :
  Calls Tryz.prog 117 #[.string s] w (Ret w (.tuple #[.int .i32 V.1,.int .i64 (V.2:Nat)])):=by
 unfold maxLen at hs;have hb256:(b.toNat:Int)<256:=by have:=b.toNat_lt;omega
 go_enter Tryz.func117,Tryz.ntmps117
 go_wp2_with fail
 go_loop [5,6] (fun c i=>∃ k:Nat,k≤0∧i=.int .i64 ((k+1:Nat):Int)∧c=.int .i32 (foldR c0 (m.take k))) (fun _ i=>5-(intOf i).toNat)
 case atStart=>exact ⟨0,Nat.zero_le _,rfl,by rw [hc0.out];rfl⟩
 case round =>
  obtain ⟨k,hk,rfl,rfl⟩:=hrel
  have hbk:=hbd.out k (by have:=hml.out;omega)
  generalize hck:foldR c0 (m.take k)=ck at *
  have HCK:=Lib.hid hck
  clear hck;obtain ⟨hbk0,hbk1⟩:=hbk
  by_cases hlt:k<0
  ·omega
  ·obtain rfl:k=0:=by omega
   have hfull:m.take 0=m:=List.take_of_length_le (by have:=hml.out;omega)
   have HCK':Hid (foldR c0 m=ck):=by have:=HCK.out;rw [hfull] at this;exact this
   clear hfull;by_cases hch:charB ck=true
   ·have hpf:putF ck=enc ck:=by unfold putF;rw [if_pos hch]
    have HPF:=Lib.hid hpf
    clear hpf;by_cases hq:(putF ck == (s.extract 0 1).toList)=true
    ·have hv:Hid (V=(ck,1)):=by
      have hq':(enc ck == b :: m)=true:=by rw [← HPF.out,← hm0.out];exact hq
      show V=(ck,1)
      rw [hV.out,HCK'.out,hch,hq'];rfl
     go_wp2_with (go_at_call 129;refine (zAZ _ _).mono ?_;rintro e w2 ⟨rfl,hb2⟩)
     go_ret2;exact ⟨by rw [hv.out];rfl,hb2⟩
    ·have hq0:(putF ck == (s.extract 0 1).toList)=false:=by simpa using hq
     clear hq;have hv:Hid (V=(-1,0)):=by
      have hq':(enc ck == b :: m)=false:=by rw [← HPF.out,← hm0.out];exact hq0
      show V=(-1,0)
      rw [hV.out,HCK'.out,hq'];simp
     go_wp2_with (go_at_call 129;refine (zAZ _ _).mono ?_;rintro e w2 ⟨rfl,hb2⟩)
     go_ret2;exact ⟨by rw [hv.out];rfl,hb2⟩
   ·have hch':charB ck=false:=by simpa using hch
    clear hch;have hv:Hid (V=(-1,0)):=by
     show V=(-1,0)
     rw [hV.out,HCK'.out,hch'];simp
    go_wp2_with (go_at_call 129;refine (zAZ _ _).mono ?_;rintro e w2 ⟨rfl,hb2⟩)
    go_ret2;exact ⟨by rw [hv.out];rfl,hb2⟩
theorem zFx (s:ByteArray) (w:World) (hs:s.size≤maxLen) :
  Calls Tryz.prog 117 #[.string s] w (Ret w (.tuple #[.int .i32 (nextL s.data.toList).1,.int .i64 ((nextL s.data.toList).2:Nat)])):=by
 have hsz:=zAH s
 cases hl:s.data.toList with
 | nil=>exact zI4 s w (by rw [ByteArray.toList_eq,hl];rfl)
 | cons b t =>
  have hp:0<s.size:=by rw [← hsz,hl];simp
  have hne:s.toList.isEmpty=false:=by rw [ByteArray.toList_eq,hl];rfl
  have he:=zJY s b t hl hp
  have hlen:t.length+1=s.size:=by rw [← hsz,hl];rfl
  have hb256:(b.toNat:Int)<256:=by have:=b.toNat_lt;omega
  have hx0:∀ n,(s.extract 0 (n+1)).toList=b :: t.take n:=fun n=>by
   rw [ByteArray.toList_eq,Lib.extract_data,hl];rfl
  have hmx:∀ n k x,(t.take n)[k]? = some x→s.data.toList[k+1]? = some x:=fun n k x h=>by
   rw [hl,List.getElem?_cons_succ];rw [List.getElem?_take] at h
   split at h
   ·exact h
   ·cases h
  have hv:=zLG b t
  have hbd:=fun (n:Nat) (hn:(t.take n).length+1≤rN b.toNat)=>zKr b.toNat (by omega) (t.take n) hb256 hn
  generalize hV:nextL (b :: t)=V at *
  rcases (by omega:(b.toNat:Int)<192∨(192≤(b.toNat:Int)∧(b.toNat:Int)<224)∨(224≤(b.toNat:Int)∧(b.toNat:Int)<240)∨(240≤(b.toNat:Int)∧(b.toNat:Int)<248)∨248≤(b.toNat:Int)) with h | ⟨h,h'⟩ | ⟨h,h'⟩ | ⟨h,h'⟩ | h
  ·have e1:rN b.toNat=1:=by unfold rN;repeat (first | rw [if_pos (by omega)] | rw [if_neg (by omega)])
   have e2:rC b.toNat=(b.toNat:Int):=by unfold rC;repeat (first | rw [if_pos (by omega)] | rw [if_neg (by omega)])
   rw [e1,e2] at hv;rw [e1,e2] at hbd;by_cases hlt:t.length+1<1
   ·omega
   ·rw [if_neg hlt] at hv
    have hml:(t.take 0).length=0:=by rw [List.length_take];omega
    exact zFy s w b _ (t.take 0) hs hp hne he h rfl (by omega) hml (hx0 0) (hmx 0) (hbd 0 (by omega)) V hv.symm
  ·have e1:rN b.toNat=2:=by unfold rN;repeat (first | rw [if_pos (by omega)] | rw [if_neg (by omega)])
   have e2:rC b.toNat=(b.toNat:Int)-192:=by unfold rC;repeat (first | rw [if_pos (by omega)] | rw [if_neg (by omega)])
   rw [e1,e2] at hv;rw [e1,e2] at hbd;by_cases hlt:t.length+1<2
   ·rw [if_pos hlt] at hv
    rw [← hv];exact zFH s w b hs hp hne he h h' (by omega)
   ·rw [if_neg hlt] at hv
    have hml:(t.take 1).length=1:=by rw [List.length_take];omega
    exact zFz s w b _ (t.take 1) hs hp hne he h h' rfl (by omega) hml (hx0 1) (hmx 1) (hbd 1 (by omega)) V hv.symm
  ·have e1:rN b.toNat=3:=by unfold rN;repeat (first | rw [if_pos (by omega)] | rw [if_neg (by omega)])
   have e2:rC b.toNat=(b.toNat:Int)-224:=by unfold rC;repeat (first | rw [if_pos (by omega)] | rw [if_neg (by omega)])
   rw [e1,e2] at hv;rw [e1,e2] at hbd;by_cases hlt:t.length+1<3
   ·rw [if_pos hlt] at hv
    rw [← hv];exact zFI s w b hs hp hne he h h' (by omega)
   ·rw [if_neg hlt] at hv
    have hml:(t.take 2).length=2:=by rw [List.length_take];omega
    exact zF0 s w b _ (t.take 2) hs hp hne he h h' rfl (by omega) hml (hx0 2) (hmx 2) (hbd 2 (by omega)) V hv.symm
  ·have e1:rN b.toNat=4:=by unfold rN;repeat (first | rw [if_pos (by omega)] | rw [if_neg (by omega)])
   have e2:rC b.toNat=(b.toNat:Int)-240:=by unfold rC;repeat (first | rw [if_pos (by omega)] | rw [if_neg (by omega)])
   rw [e1,e2] at hv;rw [e1,e2] at hbd;by_cases hlt:t.length+1<4
   ·rw [if_pos hlt] at hv
    rw [← hv];exact zFJ s w b hs hp hne he h h' (by omega)
   ·rw [if_neg hlt] at hv
    have hml:(t.take 3).length=3:=by rw [List.length_take];omega
    exact zF1 s w b _ (t.take 3) hs hp hne he h h' rfl (by omega) hml (hx0 3) (hmx 3) (hbd 3 (by omega)) V hv.symm
  ·have e1:rN b.toNat=1:=by unfold rN;repeat (first | rw [if_pos (by omega)] | rw [if_neg (by omega)])
   have e2:rC b.toNat=(b.toNat:Int):=by unfold rC;repeat (first | rw [if_pos (by omega)] | rw [if_neg (by omega)])
   rw [e1,e2] at hv;rw [e1,e2] at hbd;by_cases hlt:t.length+1<1
   ·omega
   ·rw [if_neg hlt] at hv
    have hml:(t.take 0).length=0:=by rw [List.length_take];omega
    exact zF2 s w b _ (t.take 0) hs hp hne he h rfl (by omega) hml (hx0 0) (hmx 0) (hbd 0 (by omega)) V hv.symm
end
section
def digitV (base x:Int):Int :=
 if 48≤x∧x≤57 then x-48
 else if base=16∧97≤x∧x≤102 then x-87
 else if base=16∧65≤x∧x≤70 then x-55
 else -1
theorem zDv (base x:Int):-1≤digitV base x∧digitV base x<16:=by
 unfold digitV
 repeat (first | split | omega)
def scanL (base:Int):Nat→Int→List UInt8→Option (Int × Nat)
 | _,_,[]=>none
 | k,c,x :: r=>if x=59∧0<k then some (c,k) else if digitV base x.toNat<0∨7≤k then none else scanL base (k+1) (c * base+digitV base x.toNat) r
def pre (p l:List UInt8):Bool:=l.take p.length == p
def pick (n:Nat):Option (Int × Nat)→Int × Nat
 | some (c,k)=>(c,n+k+1)
 | none=>(0,0)
def refL (l:List UInt8):Int × Nat :=
 if pre [38,97,109,112,59] l then (38,5)
 else if pre [38,108,116,59] l then (60,4)
 else if pre [38,103,116,59] l then (62,4)
 else if pre [38,113,117,111,116,59] l then (34,6)
 else if pre [38,97,112,111,115,59] l then (39,6)
 else if pre [38,35] l then
  if pre [38,35,120] l then pick 3 (scanL 16 0 0 (l.drop 3)) else pick 2 (scanL 10 0 0 (l.drop 2))
 else (0,0)
theorem zAU {p l:List UInt8} (h:pre p l=true):p.length≤l.length:=by
 have:=congrArg List.length (eq_of_beq h)
 rw [List.length_take] at this;omega
theorem zLV (base:Int):∀ (l:List UInt8) (k:Nat) (c:Int) (q:Int × Nat),scanL base k c l=some q→q.2<k+l.length∧q.2≤7∧k≤q.2∨q.2=k∧q.2<k+l.length:=by
 intro l
 induction l with
 | nil=>intro k c q h;simp [scanL] at h
 | cons x r ih =>
  intro k c q h;simp only [scanL] at h
  split at h
  ·injection h with h;subst h;right;simp
  ·split at h
   ·cases h
   ·rename_i hk
    rcases ih _ _ _ h with h' | h'
    ·left;simp only [List.length_cons];omega
    ·left;simp only [List.length_cons];omega
theorem zEO (l:List UInt8):(refL l).2≤l.length:=by
 unfold refL;have key:∀ (n:Nat) (base:Int),n≤l.length→(pick n (scanL base 0 0 (l.drop n))).2≤l.length:=fun n base hn=>by
  cases h:scanL base 0 0 (l.drop n) with
  | none=>simp [pick]
  | some q =>
   have:=zLV base _ _ _ _ h
   rw [List.length_drop] at this;simp only [pick];omega
 split
 ·rename_i h;exact zAU h
 split
 ·rename_i h;exact zAU h
 split
 ·rename_i h;exact zAU h
 split
 ·rename_i h;exact zAU h
 split
 ·rename_i h;exact zAU h
 split
 ·rename_i h
  split
  ·rename_i h';exact key 3 16 (zAU h')
  ·exact key 2 10 (zAU h)
 ·simp
def stepL (v:Bool) (l:List UInt8):Int ⊕ (List UInt8 × Nat) :=
 let q:=nextL l
 if 0<q.2∧(q.1=60∨q.1=62) then .inl 20
 else if q.2=0∨q.1=13∨(v=true∧(q.1=34∨q.1=9∨q.1=10)) then .inl 21
 else
  let r:=if q.1=38 then refL l else q
  if r.2=0 then .inl 20 else if charB r.1=false then .inl 21 else .inr (putF r.1,r.2)
theorem zCH {v:Bool} {l t:List UInt8} {n:Nat} (h:stepL v l=.inr (t,n)):1≤n∧n≤l.length∧t.length≤4:=by
 simp only [stepL] at h
 split at h
 ·cases h
 split at h
 ·cases h
 have hr:(if (nextL l).fst=38 then refL l else nextL l).2≤l.length:=by
  split
  ·exact zEO l
  ·exact (zA2 l).1
 generalize (if (nextL l).fst=38 then refL l else nextL l)=r at h hr
 split at h
 ·cases h
 split at h
 ·cases h
 ·injection h with h
  injection h with ht hn
  exact ⟨by omega,by omega,by rw [← ht];exact zBZ _⟩
def undoF (v:Bool):Nat→List UInt8→List UInt8 × Nat × Int
 | 0,_=>([],0,0)
 | f+1,l =>
  if l=[] then ([],0,0)
  else match stepL v l with
   | .inl e=>([],0,e)
   | .inr (t,n) =>
    let r:=undoF v f (l.drop n)
    if r.2.2=0 then (t++r.1,n+r.2.1,0) else ([],n+r.2.1,r.2.2)
theorem zIt (v:Bool) (f:Nat):∀ (l:List UInt8) (g:Nat),l.length≤f→l.length≤g→undoF v f l=undoF v g l:=by
 induction f with
 | zero =>
  intro l g h _;obtain rfl:l=[]:=List.eq_nil_of_length_eq_zero (by omega)
  cases g <;> simp [undoF]
 | succ f ih =>
  intro l g h h';by_cases hl:l=[]
  ·subst hl;cases g <;> simp [undoF]
  ·have hp:0<l.length:=List.length_pos_iff.2 hl
   obtain ⟨g,rfl⟩:∃ g',g=g'+1:=⟨g-1,by omega⟩
   simp only [undoF,if_neg hl];cases hs:stepL v l with
   | inl e=>rfl
   | inr q =>
    obtain ⟨t,n⟩:=q
    have:=zCH hs
    simp only
    rw [ih (l.drop n) g (by rw [List.length_drop];omega) (by rw [List.length_drop];omega)]
def undoL (v:Bool) (l:List UInt8):List UInt8 × Nat × Int:=undoF v l.length l
def joinU (acc:List UInt8) (at_:Nat) (r:List UInt8 × Nat × Int):List UInt8 × Nat × Int :=
 if r.2.2=0 then (acc++r.1,at_+r.2.1,0) else ([],at_+r.2.1,r.2.2)
theorem zBr (v:Bool):undoL v []=([],0,0):=rfl
theorem zAL (v:Bool) (l:List UInt8) (h:l≠[]) (e:Int) (hs:stepL v l=.inl e):undoL v l=([],0,e):=by
 unfold undoL;have hp:0<l.length:=List.length_pos_iff.2 h
 obtain ⟨f,hf⟩:∃ f,l.length=f+1:=⟨l.length-1,by omega⟩
 rw [hf];simp only [undoF,if_neg h,hs]
theorem zA6 (v:Bool) (l:List UInt8) (h:l≠[]) (t:List UInt8) (n:Nat) (hs:stepL v l=.inr (t,n)):undoL v l=joinU t n (undoL v (l.drop n)):=by
 unfold undoL joinU;have hp:0<l.length:=List.length_pos_iff.2 h
 obtain ⟨f,hf⟩:∃ f,l.length=f+1:=⟨l.length-1,by omega⟩
 have:=zCH hs
 rw [hf];simp only [undoF,if_neg h,hs];rw [zIt v f (l.drop n) (l.drop n).length (by rw [List.length_drop];omega) (Nat.le_refl _)]
theorem zCu (r:List UInt8 × Nat × Int) (h:r.2.2≠0→r.1=[]):joinU [] 0 r=r:=by
 obtain ⟨a,b,c⟩:=r
 unfold joinU;by_cases hc:c=0
 ·subst hc;simp
 ·have ha:a=[]:=h hc
  subst ha;simp [hc]
theorem zBB (a b:List UInt8) (m n:Nat) (r:List UInt8 × Nat × Int):joinU a m (joinU b n r)=joinU (a++b) (m+n) r:=by
 obtain ⟨x,y,z⟩:=r
 unfold joinU;by_cases hz:z=0
 ·subst hz;simp;omega
 ·simp [hz];omega
theorem zHW (v:Bool) (f:Nat):∀ l,(undoF v f l).2.2≠0→(undoF v f l).1=[]:=by
 induction f with
 | zero=>intro l h;rfl
 | succ f ih =>
  intro l h;simp only [undoF] at h ⊢
  split
  ·rfl
  ·rename_i hl
   rw [if_neg hl] at h;cases hs:stepL v l with
   | inl e=>rfl
   | inr q =>
    obtain ⟨t,n⟩:=q
    simp only [hs] at h ⊢;by_cases hr:(undoF v f (l.drop n)).2.2=0
    ·simp [hr] at h
    ·simp [hr]
theorem zBx (v:Bool) (l:List UInt8):(undoL v l).2.2≠0→(undoL v l).1=[]:=zHW v _ l
end
section
open Go.RowKit
theorem zKx:(Tryz.prog.info? 21).map (fun i=>(i.zero,i.size,i.bytes))=some (some (.int .i32 0),1,4):=by kernel_rfl
theorem zAc (s:ByteArray) (w:World) (hs:s.size≤maxLen) (c:Int) (n:Nat) (h:Hid (nextL s.data.toList=(c,n))) :
  Calls Tryz.prog 117 #[.string s] w (Ret w (.tuple #[.int .i32 c,.int .i64 (n:Nat)])):=by
 have:=zFx s w hs
 rw [h.out] at this;exact this
def OwnRunes (w w':World) (v:Value) (cs:List Int):Prop:=w'.ownsRow w.heap.size 21 1 v cs.length (cs.map (Value.int .i32))
def AllPost (w:World) (r:Option (List Int)) (e:Ending) (w':World):Prop :=
 ∃ ad c,e=.returned (.tuple #[.slice ad (r.getD []).length c,.bool r.isSome])∧OwnRunes w w' (.slice ad (r.getD []).length c) (r.getD [])∧Below w.heap.size w w'
theorem zBs (s:ByteArray) (w:World) (hs:s.size≤1000000000) :
  Calls Tryz.prog 92 #[.string s] w (AllPost w (charsL s.data.toList)):=by
 go_enter Tryz.func92,Tryz.ntmps92
 go_wp2_with fail
 go_loopw [0,4] (fun sv v wr=>∃ (t:ByteArray) (acc:List Int) (ad:Option Addr) (cp:Nat),sv=.string t∧v=.slice ad acc.length cp∧t.size≤s.size∧Hid (charsL s.data.toList=(charsL t.data.toList).map (acc ++ ·))∧acc.length+t.size≤s.size ∧
   wr.ownsRow w.heap.size 21 1 (.slice ad acc.length cp) acc.length (acc.map (Value.int .i32))∧Below w.heap.size w wr) (fun sv _ _=>(strOf sv).size)
 case atStart =>
  refine ⟨s,[],none,0,rfl,rfl,Nat.le_refl _,?_,by simp,World.ownsRow_nil _ _ _ _,Below.refl _ _⟩
  show _=_
  cases charsL s.data.toList <;> simp
 case round =>
  obtain ⟨t,acc,ad,cp,rfl,rfl,hts,hesc,hal,hown,hbel⟩:=hrel
  have hwz:=hbel.size
  have hl:=zAH t
  by_cases he:t.toList.isEmpty=true
  ·have hnil:t.data.toList=[]:=by rw [ByteArray.toList_eq] at he;simpa using he
   have hv:Hid (charsL s.data.toList=some acc):=by
    show _=_
    rw [hesc.out,hnil,zA0];simp
   go_wp2_with fail
   go_ret2;refine ⟨ad,cp,?_,?_,hbel⟩
   ·rw [hv.out];rfl
   ·rw [hv.out];exact hown
  ·have hne:t.toList.isEmpty=false:=by simpa using he
   clear he;have hnn:Hid (t.data.toList≠[]):=by
    intro h;rw [ByteArray.toList_eq,h] at hne;cases hne
   obtain ⟨c,n,hq⟩:∃ c n,Hid (nextL t.data.toList=(c,n)):=⟨_,_,rfl⟩
   have hle:=zA2 t.data.toList
   rw [hq.out] at hle;obtain ⟨hn1,hn4⟩:=hle
   rw [hl] at hn1;simp only at hn1 hn4
   by_cases hn:n=0
   ·have hv:Hid (charsL s.data.toList=none):=by
     show _=_
     rw [hesc.out,zBa _ hnn.out (by rw [hq.out];exact hn)];rfl
    have hn0:((n:Int) == 0)=true:=by simp [hn]
    clear hn
    go_wp2_with (go_at_call 117;refine (zAc t wr (by unfold maxLen;omega) c n hq).mono ?_;rintro e w2 ⟨rfl,hb2⟩)
    go_ret2;refine ⟨none,0,?_,?_,hbel.trans (hb2.mono (by omega))⟩
    ·rw [hv.out];rfl
    ·rw [hv.out];exact World.ownsRow_nil _ _ _ _
   ·have hn0:((n:Int) == 0)=false:=by simp [hn]
    have hesc':=zA3 t.data.toList hnn.out (by rw [hq.out];exact hn)
    rw [hq.out] at hesc';have HS:=Lib.hid hesc'
    clear hesc';have hnp:1≤n:=by omega
    clear hn
    go_wp2_with fail;refine (zAc t wr (by unfold maxLen;omega) c n hq).mono ?_
    rintro e w2 ⟨rfl,hb2⟩;have hz2:=hb2.size
    have hown2:=zGa hown hb2
    go_wp2_with (at_builtin;refine zCW rfl (.tmp 16) (.tmp 18) 152 rfl w.heap.size 21 (.int .i32 0) 4 Tryz.underlying152 zKx rfl _ _ _ (.int .i32 c) rfl hown2 (by omega) _ rfl (by simp) rfl (by omega) (by omega) ?_)
    intro g cp2 w3 hown3 hb3 hz3
    go_wp2
    go_roundw
    case rel =>
     have hx:(t.extract n t.size).data.toList=t.data.toList.drop n:=Lib.extract_to_end t n
     have hxs:(t.extract n t.size).size=t.size-n:=by simp
     refine ⟨t.extract n t.size,acc++[c],some ⟨g,0,none⟩,cp2,rfl,?_,by omega,?_,?_,?_,?_⟩
     ·rw [List.length_append];rfl
     ·show _=_
      rw [hesc.out,HS.out,hx];cases charsL (t.data.toList.drop n) <;> simp
     ·rw [List.length_append,hxs];simp;omega
     ·rw [List.length_append,List.map_append];exact hown3
     ·exact (hbel.trans (hb2.mono (by omega))).trans hb3
    case measure =>
     have hxs:(t.extract n t.size).size=t.size-n:=by simp
     show (t.extract n t.size).size<t.size
     omega
theorem zIK (f:Nat):∀ l cs,charsF f l=some cs→cs.length≤l.length:=by
 induction f with
 | zero =>
  intro l cs h;simp only [charsF] at h
  split at h
  ·injection h with h;subst h;simp
  ·cases h
 | succ f ih =>
  intro l cs h;simp only [charsF] at h
  split at h
  ·injection h with h;subst h;simp
  ·split at h
   ·cases h
   ·rename_i hl hn
    cases hr:charsF f (l.drop (nextL l).2) with
    | none=>rw [hr] at h;cases h
    | some ds =>
     rw [hr] at h
     injection h with h
     subst h;have:=ih _ _ hr
     have:=(zA2 l).1
     rw [List.length_drop] at *;simp only [List.length_cons];omega
theorem zIL (l:List UInt8) (cs:List Int) (h:charsL l=some cs):cs.length≤l.length:=zIK _ l cs h
end
section
def startB (c:Int):Bool:=decide ((65≤c∧c≤90)∨c=95∨(97≤c∧c≤122)∨(192≤c∧c≤214)∨(216≤c∧c≤246)∨(248≤c∧c≤767)∨(880≤c∧c≤893)∨(895≤c∧c≤8191)∨(8204≤c∧c≤8205)∨(8304≤c∧c≤8591)∨(11264≤c∧c≤12271)∨(12289≤c∧c≤55295)∨(63744≤c∧c≤64975)∨(65008≤c∧c≤65533)∨(65536≤c∧c≤983039))
def partB (c:Int):Bool:=startB c || decide ((45≤c∧c≤46)∨(48≤c∧c≤57)∨c=183∨(768≤c∧c≤879)∨(8255≤c∧c≤8256))
def nameL (l:List UInt8):Bool:=match charsL l with
 | some (c :: cs)=>decide (l.length≤60) && (startB c && (partB c && cs.all partB))
 | _=>false
def okF:Bool→List Int→Bool
 | _,[]=>true
 | first,c :: cs=>(partB c && (!first || startB c)) && okF false cs
def eachI (k:Nat) (l:List UInt8):Int:=match charsL l with
 | some cs=>if okF (k == 0) cs then ((k+cs.length:Nat):Int) else -1
 | none=>-1
theorem zJS (k:Nat):eachI k []=k:=by unfold eachI;rw [zA0];simp [okF]
theorem zJR (k:Nat) (l:List UInt8) (h:l≠[]) (hn:(nextL l).2=0):eachI k l = -1:=by
 unfold eachI;rw [zBa l h hn]
theorem zKn (k:Nat) (l:List UInt8) (h:l≠[]) (hn:(nextL l).2≠0) (hr:(partB (nextL l).1 && (!(k == 0) || startB (nextL l).1))=false):eachI k l = -1:=by
 unfold eachI;rw [zA3 l h hn];cases charsL (l.drop (nextL l).2) with
 | none=>rfl
 | some cs=>simp only [Option.map_some,okF,hr,Bool.false_and];rfl
theorem zIN (k:Nat) (l:List UInt8) (h:l≠[]) (hn:(nextL l).2≠0) (hr:(partB (nextL l).1 && (!(k == 0) || startB (nextL l).1))=true):eachI k l=eachI (k+1) (l.drop (nextL l).2):=by
 unfold eachI;rw [zA3 l h hn];cases charsL (l.drop (nextL l).2) with
 | none=>rfl
 | some cs =>
  have:(k+1 == 0)=false:=by simp
  simp only [Option.map_some,okF,hr,Bool.true_and,this,List.length_cons];have:k+(cs.length+1)=k+1+cs.length:=by omega
  rw [this]
theorem zJy (cs:List Int):okF false cs=cs.all partB:=by
 induction cs with
 | nil=>rfl
 | cons c cs ih=>simp [okF,ih]
theorem zIW (l:List UInt8):nameL l=(decide (l.length≤60) && decide (l≠[]∧0<eachI 0 l)):=by
 unfold nameL eachI;by_cases hl:l=[]
 ·subst hl;rw [zA0];rfl
 ·cases hc:charsL l with
  | none=>simp
  | some cs =>
   cases cs with
   | nil =>
    exfalso
    by_cases hn:(nextL l).2=0
    ·rw [zBa l hl hn] at hc;cases hc
    ·rw [zA3 l hl hn] at hc
     cases hd:charsL (l.drop (nextL l).2) <;> rw [hd] at hc <;> simp at hc
   | cons c cs =>
    simp only [okF,zJy];have e0:((0:Nat) == 0)=true:=rfl
    rw [e0];cases partB c <;> cases startB c <;> cases cs.all partB <;> simp [hl]
end
section
structure AttrD where
 name:List UInt8
 value:List UInt8
deriving DecidableEq
structure ItemD where
 level:Int
 kind:Int
 name:List UInt8
 text:List UInt8
 attrs:List AttrD
deriving DecidableEq
def countL (l:List UInt8):Int:=match charsL l with
 | some cs=>cs.length
 | none=>-1
def charsE (l:List UInt8):Int:=if countL l<0 then 64 else if 1500<l.length then 67 else 0
def leB (a b:List UInt8):Bool:=Op.bytesLess a b || a == b
def attrNames (last:List UInt8):List AttrD→Bool
 | []=>true
 | a :: r=>nameL a.name && !(leB a.name last) && attrNames a.name r
def namesE (x:ItemD):Int:=if nameL x.name && attrNames [] x.attrs then (if 20<x.attrs.length then 67 else 0) else 63
def valuesE:List AttrD→Int
 | []=>0
 | a :: r=>if charsE a.value=0 then valuesE r else charsE a.value
def partsE (x:ItemD):Int :=
 if x.kind=2∧x.name=[]∧x.attrs=[] then charsE x.text
 else if x.kind≠1∨x.text≠[] then 68
 else if namesE x=0 then valuesE x.attrs else namesE x
def placeE (prev:Option ItemD) (k:Nat) (x:ItemD):Int:=match prev with
 | none=>if x.level≠0∨x.kind≠1 then 69 else 0
 | some p=>if x.level<1∨p.level+1<x.level∨(p.level<x.level∧p.kind=2) then 69 else if 40≤x.level then 42 else if 1000≤k then 43 else 0
def oneE (prev:Option ItemD) (k:Nat) (x:ItemD):Int:=if placeE prev k x=0 then partsE x else placeE prev k x
def checkF (prev:Option ItemD) (k:Nat):List ItemD→Int × Int
 | []=>(0,0)
 | x :: r=>if oneE prev k x=0 then checkF (some x) (k+1) r else (k,oneE prev k x)
def checkL (l:List ItemD):Int × Int:=if l=[] then (0,40) else checkF none 0 l
end
section
open Go.RowKit
theorem zJU (s:ByteArray) (w:World) (hs:s.size≤maxLen) :
  Calls Tryz.prog 76 #[.string s,.slice none 0 0] w (Ret w (.int .i64 (countL s.data.toList))):=by
 unfold maxLen at hs
 go_enter Tryz.func76,Tryz.ntmps76
 go_wp2_with fail
 go_loopw [0,5] (fun sv mv wr=>∃ (t:ByteArray) (k:Nat),sv=.string t∧mv=.int .i64 k∧k+t.size≤s.size∧Hid (charsL s.data.toList=none ↔ charsL t.data.toList=none)∧Hid (∀ cs,charsL t.data.toList=some cs→countL s.data.toList=k+cs.length)∧Below w.heap.size w wr) (fun sv _ _=>(strOf sv).size)
 case atStart =>
  refine ⟨s,0,rfl,rfl,by omega,Iff.rfl,?_,Below.refl _ _⟩
  intro cs hcs;unfold countL;rw [hcs];simp
 case round =>
  obtain ⟨t,k,rfl,rfl,hkt,hno,hyes,hbel⟩:=hrel
  have hwr:=hbel.size
  have HL:=Lib.hid (zAH t)
  by_cases he:t.toList.isEmpty=true
  ·have hnil:t.data.toList=[]:=by rw [ByteArray.toList_eq] at he;simpa using he
   have hv:Hid (countL s.data.toList=k):=by
    have:=hyes.out [] (by rw [hnil];rfl)
    show _=_
    rw [this];simp
   clear hnil
   go_wp2_with fail
   go_ret;exact ⟨by rw [hv.out];rfl,hbel⟩
  ·have hne:t.toList.isEmpty=false:=by simpa using he
   clear he;have hnn:Hid (t.data.toList≠[]):=by
    intro h;rw [ByteArray.toList_eq,h] at hne;cases hne
   obtain ⟨c,n,hq⟩:∃ c n,Hid (nextL t.data.toList=(c,n)):=⟨_,_,rfl⟩
   have hle:=zA2 t.data.toList
   rw [hq.out,HL.out] at hle;obtain ⟨hn1,hn4⟩:=hle
   simp only at hn1 hn4
   by_cases hn:n=0
   ·have hv:Hid (countL s.data.toList = -1):=by
     have:=hno.out.2 (zBa _ hnn.out (by rw [hq.out];exact hn))
     show _=_
     unfold countL;rw [this]
    have hn0:((n:Int) == 0)=true:=by simp [hn]
    clear hn
    go_wp2_with (go_at_call 107;refine (zAl t wr (by unfold maxLen;omega) c n hq).mono ?_;rintro e w2 ⟨rfl,hb2⟩)
    go_ret;exact ⟨by rw [hv.out];rfl,hbel.trans (hb2.mono (by omega))⟩
   ·have hn0:((n:Int) == 0)=false:=by simp [hn]
    have hst:=zA3 t.data.toList hnn.out (by rw [hq.out];exact hn)
    rw [hq.out] at hst;have HS:=Lib.hid hst
    clear hst;have hnp:1≤n:=by omega
    clear hn
    go_wp2_with fail;refine (zAl t wr (by unfold maxLen;omega) c n hq).mono ?_
    rintro e w2 ⟨rfl,hb2⟩;obtain ⟨wo,rfl⟩:∃ wo:World,wo=wr:=⟨_,rfl⟩
    go_wp2_with fail;refine wp_loop_rounds 1 ?_
    rw [rounds_succ]
    go_wp2_with fail
    go_roundw
    case rel =>
     have hx:(t.extract n t.size).data.toList=t.data.toList.drop n:=Lib.extract_to_end t n
     have hxs:(t.extract n t.size).size=t.size-n:=by simp
     refine ⟨t.extract n t.size,k+1,rfl,by go_num,by omega,?_,?_,hbel.trans (hb2.mono (by omega))⟩
     ·show _ ↔ _
      rw [hno.out,HS.out,hx];cases charsL (t.data.toList.drop n) <;> simp
     ·intro cs hcs
      rw [hx] at hcs;have:=hyes.out (c :: cs) (by rw [HS.out,hcs];rfl)
      rw [this,List.length_cons];omega
    case measure =>
     have hxs:(t.extract n t.size).size=t.size-n:=by simp
     show (t.extract n t.size).size<t.size
     omega
theorem zIu (s:ByteArray) (w:World) (hs:s.size≤maxLen) :
  Calls Tryz.prog 80 #[.string s] w (Ret w (.int .i64 (countL s.data.toList))):=by
 go_enter Tryz.func80,Tryz.ntmps80
 go_wp2_with (go_at_call 76;refine (zJU s _ hs).mono ?_;rintro e w2 ⟨rfl,hb2⟩)
 go_ret;exact ⟨rfl,hb2⟩
theorem zDb (s:ByteArray) (w:World) (hs:s.size≤maxLen) (n:Int) (h:Hid (countL s.data.toList=n)) :
  Calls Tryz.prog 80 #[.string s] w (Ret w (.int .i64 n)):=by
 have:=zIu s w hs
 rw [h.out] at this;exact this
theorem zCh (s:ByteArray) (w:World) (hs:s.size≤1000000000) (n:Int) (h:Hid (countL s.data.toList=n)) :
  Calls Tryz.prog 95 #[.string s] w (Ret w (.int .i64 n)):=by
 obtain ⟨r,hr⟩:∃ r,Hid (charsL s.data.toList=r):=⟨_,rfl⟩
 have hn:=h.out
 unfold countL at hn;rw [hr.out] at hn;subst hn;cases r with
 | none =>
  go_enter Tryz.func95,Tryz.ntmps95
  go_wp2_with fail;refine (zBs s w hs).mono ?_
  rw [hr.out];rintro e w2 ⟨ad,cp,rfl,hown,hb2⟩;clear hown
  go_wp2_with fail
  go_ret;exact ⟨rfl,hb2⟩
 | some cs =>
  go_enter Tryz.func95,Tryz.ntmps95
  go_wp2_with fail;refine (zBs s w hs).mono ?_
  rw [hr.out];rintro e w2 ⟨ad,cp,rfl,hown,hb2⟩;clear hown
  go_wp2_with fail
  go_ret;exact ⟨rfl,hb2⟩
theorem zKl (s:ByteArray) (w:World) (hs:s.size≤maxLen) (n:Int) (h:Hid (charsE s.data.toList=n)) :
  Calls Tryz.prog 103 #[.string s] w (Ret w (.int .i64 n)):=by
 obtain ⟨c,hc⟩:∃ c,Hid (countL s.data.toList=c):=⟨_,rfl⟩
 have hn:=h.out
 unfold charsE at hn;rw [hc.out,zAH] at hn;by_cases h1:c<0
 ·have hv:Hid (n=64):=by show _=_;rw [← hn,if_pos h1]
  clear hn
  go_enter Tryz.func103,Tryz.ntmps103
  go_wp2_with (go_at_call 80;refine (zDb s _ hs _ hc).mono ?_;rintro e w2 ⟨rfl,hb2⟩)
  go_ret;exact ⟨by rw [hv.out];rfl,hb2⟩
 ·rw [if_neg h1] at hn
  by_cases h2:1500<s.size
  ·have hv:Hid (n=67):=by show _=_;rw [← hn,if_pos h2]
   have h2':(1500:Int)<s.size:=by omega
   clear hn h2
   go_enter Tryz.func103,Tryz.ntmps103
   go_wp2_with (go_at_call 80;refine (zDb s _ hs _ hc).mono ?_;rintro e w2 ⟨rfl,hb2⟩)
   go_ret;exact ⟨by rw [hv.out];rfl,hb2⟩
  ·have hv:Hid (n=0):=by show _=_;rw [← hn,if_neg h2]
   have h2':(s.size:Int)≤1500:=by omega
   clear hn h2
   go_enter Tryz.func103,Tryz.ntmps103
   go_wp2_with (go_at_call 80;refine (zDb s _ hs _ hc).mono ?_;rintro e w2 ⟨rfl,hb2⟩)
   go_ret;exact ⟨by rw [hv.out];rfl,hb2⟩
theorem zKA (s:ByteArray) (w:World) (hs:s.size≤1000000000) (n:Int) (h:Hid (charsE s.data.toList=n)) :
  Calls Tryz.prog 126 #[.string s] w (Ret w (.int .i64 n)):=by
 obtain ⟨c,hc⟩:∃ c,Hid (countL s.data.toList=c):=⟨_,rfl⟩
 have hn:=h.out
 unfold charsE at hn;rw [hc.out,zAH] at hn;by_cases h1:c<0
 ·have hv:Hid (n=64):=by show _=_;rw [← hn,if_pos h1]
  clear hn
  go_enter Tryz.func126,Tryz.ntmps126
  go_wp2_with (go_at_call 95;refine (zCh s _ hs _ hc).mono ?_;rintro e w2 ⟨rfl,hb2⟩)
  go_ret;exact ⟨by rw [hv.out];rfl,hb2⟩
 ·rw [if_neg h1] at hn
  by_cases h2:1500<s.size
  ·have hv:Hid (n=67):=by show _=_;rw [← hn,if_pos h2]
   have h2':(1500:Int)<s.size:=by omega
   clear hn h2
   go_enter Tryz.func126,Tryz.ntmps126
   go_wp2_with (go_at_call 95;refine (zCh s _ hs _ hc).mono ?_;rintro e w2 ⟨rfl,hb2⟩)
   go_ret;exact ⟨by rw [hv.out];rfl,hb2⟩
  ·have hv:Hid (n=0):=by show _=_;rw [← hn,if_neg h2]
   have h2':(s.size:Int)≤1500:=by omega
   clear hn h2
   go_enter Tryz.func126,Tryz.ntmps126
   go_wp2_with (go_at_call 95;refine (zCh s _ hs _ hc).mono ?_;rintro e w2 ⟨rfl,hb2⟩)
   go_ret;exact ⟨by rw [hv.out];rfl,hb2⟩
end
end Go.Proofs.YtcombcoilpmnkaaGreat

/-
  Texts of this claim, joined (by a program of the claim's author): WDep, R7e, R7f.
-/
import Derived.Test.YtcombcoilpmnkaaGreatWF1
import Derived.Test.YtcombcoilpmnkaaGreatWF21
namespace Go.Proofs.YtcombcoilpmnkaaGreat
set_option maxRecDepth 100000
set_option maxHeartbeats 16000000
section
open Go.RowKit Go.Shelf
def ChainAt (w:World) (A:Option Addr) (c k:Nat):Prop:=w.ownsRow 0 45 4 (.slice A k c) k ((List.replicate k ((sC,none,0):QSlot)).flatMap cellsS)
def zeroS:Array Value:=#[.int .i64 0,.int .i64 0,.string ⟨#[]⟩,.slice none 0 0]
section
variable {M:Nat→Prop} {t:Nat} {f:Fo} {next:Int}
end
end
section
open Go.RowKit Go.Shelf
theorem zAp {P:Program} {fn:Func} {p u:Tmp} {ty ty':TypeId} (h:fn.results=#[.cell p ty,.cell u ty']) (tmps:Array Value) (w:World) (g g':Nat) (t t':TypeId) (cs cs':Array Value) (fr fr':Nat × Nat) (d d':TypeDesc)
  (hp:tmps.getD p undef=.pointer (some ⟨g,0,none⟩)) (hp':tmps.getD u undef=.pointer (some ⟨g',0,none⟩)) (hg:w.heap[g]? = some (.cells cs t fr)) (hg':w.heap[g']? = some (.cells cs' t' fr'))
  (hu:P.underlying ty=some d) (hd:(match d with | .struct _ | .array _ _=>true | _=>false)=true) (hi:(P.info? ty).map (·.size)=some cs.size)
  (hu':P.underlying ty'=some d') (hd':(match d' with | .struct _ | .array _ _=>true | _=>false)=true) (hi':(P.info? ty').map (·.size)=some cs'.size) :
  (results fn tmps).run P w=.ok (.tuple #[.agg cs,.agg cs']) w:=by
 have e1:tmps[p]?.getD undef=.pointer (some ⟨g,0,none⟩):=by simpa using hp
 have e2:tmps[u]?.getD undef=.pointer (some ⟨g',0,none⟩):=by simpa using hp'
 simp [results,h,e1,e2,asAddr,Result.andThen,run_loadVar_row w g t ty cs fr d hg hu hd hi,run_loadVar_row w g' t' ty' cs' fr' d' hg' hu' hd' hi']
def stQ (at_:Int) (A:Option Addr) (n c:Nat) (bad e:Int):Array Value:=#[.int .i64 at_,.slice A n c,.int .i64 bad,.int .i64 e]
def zeroQ:Array Value:=#[.int .i64 0,.slice none 0 0,.int .i64 0,.int .i64 0]
theorem zBL (at_:Int) (A:Option Addr) (n c:Nat) (bad e:Int):(stQ at_ A n c bad e).all (·.oneCell')=true:=by simp [stQ,Value.oneCell']
def stC (ax te:Int) (nm:List UInt8) (A:Option Addr) (n c:Nat):Array Value:=#[.int .i64 ax,.int .i64 te,.string ⟨nm.toArray⟩,.slice A n c]
theorem zBK (ax te:Int) (nm:List UInt8) (A:Option Addr) (n c:Nat):(stC ax te nm A n c).all (·.oneCell')=true:=by simp [stC,Value.oneCell']
theorem zEU {W:World} {A:Option Addr} {c:Nat} {l:List PredD} (ho:PredsOwn W 0 A c l) (hl:l.length≤1000) (x:PredD) :
  ∃ pa pc w',(Builtin.append_ #[43,43] 43 #[.slice A l.length c,.slice (some ⟨W.heap.size,0,none⟩) 1 1]).run Tryz.prog (W.alloc (.cells #[.int .i64 x.kind,.int .i64 x.num,.string ⟨x.name.toArray⟩,.string ⟨x.value.toArray⟩] 102))=.ok (.slice pa (l++[x]).length pc) w' ∧
   PredsOwn w' 0 pa pc (l++[x])∧W.grownBy w' (Value.slice A l.length c).ownBlock ∧ ∀ b,(Value.slice pa (l++[x]).length pc).ownBlock=some b→(Value.slice A l.length c).ownBlock=some b∨W.heap.size≤b:=by
 obtain ⟨Wa,hWa⟩:∃ Wa,Wa=W.alloc (.cells #[.int .i64 x.kind,.int .i64 x.num,.string ⟨x.name.toArray⟩,.string ⟨x.value.toArray⟩] 102):=⟨_,rfl⟩
 have hba:Below W.heap.size W Wa:=by rw [hWa];exact (Below.refl _ W).alloc (Nat.le_refl _) _
 have hXa:Wa.heap[W.heap.size]? = some (.cells #[.int .i64 x.kind,.int .i64 x.num,.string ⟨x.name.toArray⟩,.string ⟨x.value.toArray⟩] 102 (0,0)):=by rw [hWa];exact heap_alloc_new W _
 have hoa:PredsOwn Wa 0 A c l:=zAC ho fun b hb=>hba.block b (zAJ ho hb)
 rw [← hWa];obtain ⟨v',w',hr,hrow',hg',hf'⟩:=zAy (P:=Tryz.prog) Wa 43 43 102 (.agg #[.int .i64 0,.int .i64 0,.string ByteArray.empty,.string ByteArray.empty]) 4 48 Tryz.underlying43 zHn rfl (by decide) (by decide) _ _ _ hoa ⟨W.heap.size,0,none⟩ 1 1 (cellsP x) (by decide) rfl (fun j u hj=>by
  match j,hj with
  | 0,hj=>simp [cellsP] at hj;subst hj;rw [zAI];exact zAA hXa 0 _ rfl
  | 1,hj=>simp [cellsP] at hj;subst hj;rw [zAI];exact zAA hXa 1 _ rfl
  | 2,hj=>simp [cellsP] at hj;subst hj;rw [zAI];exact zAA hXa 2 _ rfl
  | 3,hj=>simp [cellsP] at hj;subst hj;rw [zAI];exact zAA hXa 3 _ rfl
  | j+4,hj=>simp [cellsP] at hj) (zEn x) (by omega) (by omega)
 obtain ⟨pa,pc,hv',_⟩:=zAR hrow'
 subst hv';have e:(l++[x]).length=l.length+1:=by simp
 refine ⟨pa,pc,w',by rw [e];exact hr,?_,⟨hg'.os.trans hba.os,hg'.tape.trans hba.tape,hg'.output.trans hba.output,Nat.le_trans hba.size hg'.size,fun b hb hne=>(hg'.block b (Nat.lt_of_lt_of_le hb hba.size) hne).trans (hba.block b hb)⟩,fun b hb=>?_⟩
 ·unfold PredsOwn
  rw [e,List.flatMap_append]
  simpa using hrow'
 ·rw [e] at hb
  rcases hf' b hb with h | h
  ·exact .inl h
  ·have:=hba.size;exact .inr (by omega)
def PsPost (w:World) (p:Nat) (ax te:Int) (nm:List UInt8) (V:Told (List PredD)) (e:Ending) (w':World):Prop:=match V with
 | .ok ps n=>∃ A c,e=.returned (.tuple #[.agg (stC ax te nm A ps.length c),.agg (stQ ((p+n:Nat):Int) none 0 0 0 0)])∧PredsOwn w' 0 A c ps∧Below w.heap.size w w'
 | .bad k er=>∃ A n c,e=.returned (.tuple #[.agg (stC ax te nm A n c),.agg (stQ 0 none 0 0 ((p+k:Nat):Int) er)])∧Below w.heap.size w w'
end
section
open Go.RowKit Go.Shelf
theorem zMm (s:ByteArray) (p:Nat) (i:Int) (w:World) (hp:p≤s.size) (hs:s.size≤1000000000) (V:Told PredD) (hV:Hid (qpred (s.data.toList.drop p)=V)) (hi:i=(p:Int)) :
  Calls Tryz.prog 135 #[.string s,.int .i64 i] w (PPost w p V):=by
 subst hi;exact zMy s p w hp hs V hV
theorem zMn (s:ByteArray) (p:Nat) (w:World) (ax te:Int) (nm:List UInt8) (hp:p≤s.size) (hs:s.size≤1000000000) (V:Told (List PredD)) (hV:Hid (qpreds (s.data.toList.drop p) []=V)) :
  Calls Tryz.prog 123 #[.string s,.int .i64 p,.agg (stC ax te nm none 0 0)] w (PsPost w p ax te nm V):=by
 have HL:=Lib.hid (zAH s)
 unfold stC
 go_enter Tryz.func123,Tryz.ntmps123
 go_wp2_with fail;obtain ⟨W3,hW3⟩:∃ W3,Hid (((w.alloc (.cells (stC ax te nm none 0 0) 45)).alloc (.cells zeroS 45)).alloc (.cells zeroQ 129)=W3):=⟨_,rfl⟩
 have hW3':=hW3.out
 unfold stC zeroS zeroQ at hW3';rw [hW3'];clear hW3';have hb1:Below w.heap.size w (w.alloc (.cells (stC ax te nm none 0 0) 45)):=(Below.refl _ w).alloc (Nat.le_refl _) _
 have HB3:Hid (Below w.heap.size w W3):=by
  show Below _ _ _
  rw [← hW3.out];exact (hb1.alloc hb1.size _).alloc (hb1.alloc hb1.size _).size _
 have H53:Hid (W3.heap[w.heap.size]? = some (.cells (stC ax te nm none 0 0) 45 (0,0))):=by
  show _=_
  rw [← hW3.out];exact (Below.heap_alloc _ _ _ (by simp;omega)).trans ((Below.heap_alloc _ _ _ (by simp)).trans (heap_alloc_new w _))
 have H63:Hid (W3.heap[w.heap.size+1]? = some (.cells zeroS 45 (0,0))):=by
  show _=_
  rw [← hW3.out];have h:=heap_alloc_new (w.alloc (.cells (stC ax te nm none 0 0) 45)) (.cells zeroS 45)
  rw [show (w.alloc (.cells (stC ax te nm none 0 0) 45)).heap.size=w.heap.size+1 by simp] at h
  exact (Below.heap_alloc _ _ _ (by simp)).trans h
 have H73:Hid (W3.heap[w.heap.size+2]? = some (.cells zeroQ 129 (0,0))):=by
  show _=_
  rw [← hW3.out];have h:=heap_alloc_new ((w.alloc (.cells (stC ax te nm none 0 0) 45)).alloc (.cells zeroS 45)) (.cells zeroQ 129)
  rw [show ((w.alloc (.cells (stC ax te nm none 0 0) 45)).alloc (.cells zeroS 45)).heap.size=w.heap.size+2 by simp] at h
  exact h
 clear hb1
 go_loopw [1] (fun i wr=>∃ (k:Nat) (ps:List PredD) (A:Option Addr) (c:Nat),p≤k∧k≤s.size∧i=.int .i64 (k:Int)∧ps.length≤5∧Hid ((qpreds (s.data.toList.drop k) ps).past (k-p)=V)∧Hid (wr.heap[w.heap.size]? = some (.cells (stC ax te nm A ps.length c) 45 (0,0)))∧Hid (wr.heap[w.heap.size+1]? = some (.cells zeroS 45 (0,0)))∧Hid (wr.heap[w.heap.size+2]? = some (.cells zeroQ 129 (0,0)))∧Hid (PredsOwn wr 0 A c ps)∧Hid (∀ b,(Value.slice A ps.length c).ownBlock=some b→w.heap.size≤b)∧Hid (Below w.heap.size w wr)) (fun i _=>s.size-(intOf i).toNat)
 case atStart=>exact ⟨p,[],none,0,Nat.le_refl _,hp,rfl,by simp,by show _=_;rw [Nat.sub_self,hV.out];cases V <;> simp [Told.past],H53.out,H63.out,H73.out,⟨by simp,.inl ⟨rfl,rfl⟩⟩,fun b hb=>by simp [Value.ownBlock] at hb,HB3.out⟩
 case round =>
  obtain ⟨k,ps,A,c,hk0,hks,rfl,hp5,hqp,h5,h6,h7,hown,hfr,hbl⟩:=hrel
  clear H53 H63 H73 HB3 hW3;have k0:(0:Int)≤(k:Int):=by omega
  have k1:(k:Int)≤s.size:=by omega
  cases hbr:pre [91] (s.data.toList.drop k) with
  | false =>
   have HBR:=Lib.hid hbr
   have HV:Hid (V=.ok ps (k-p)):=by show _=_;rw [← hqp.out,zEK hbr];simp [Told.past]
   clear hbr
   go_wp2_with fail;refine (zAn s k [91] wr hks hs (by decide) false HBR.out).mono ?_
   rintro e v1 ⟨rfl,hb1⟩;have H5:=Lib.hid (zAB hb1 h5.out)
   have H6:=Lib.hid (zAB hb1 h6.out)
   have H7:=Lib.hid (zAB hb1 h7.out)
   have HB:=Lib.hid (hbl.out.trans (hb1.mono hbl.out.size))
   have HO:Hid (PredsOwn v1 0 A c ps):=zAC hown.out fun b hb=>hb1.block b (zAJ hown.out hb)
   clear hb1;have c0:=zAA H5.out 0 _ rfl
   have c1:=zAA H5.out 1 _ rfl
   have c2:=zAA H5.out 2 _ rfl
   have c3:=zAA H5.out 3 _ rfl
   have G7:=(setRow_other v1 (w.heap.size+1) (w.heap.size+2) (stC ax te nm A ps.length c) (by omega)).trans H7.out
   go_wp2_with (first | refine wpList_store_row rfl 45 (.tmp 6) (.tmp 51) rfl (w.heap.size+1) (stC ax te nm A ps.length c) rfl rfl 45 zeroS H6.out (by kernel_rfl) rfl (zBK _ _ _ _ _ _) ?_ | refine wpList_store_row rfl 129 (.tmp 7) (.tmp 53) rfl (w.heap.size+2) (stQ k none 0 0 0 0) rfl rfl 129 zeroQ G7 (by kernel_rfl) rfl (zBL _ _ _ _ _ _) ?_)
   try simp only [Exit.inBlock,Exit.then]
   have I6:=(setRow_other (v1.setRow (w.heap.size+1) (stC ax te nm A ps.length c)) (w.heap.size+2) (w.heap.size+1) (stQ k none 0 0 0 0) (by omega)).trans (setRow_heap v1 (w.heap.size+1) _ (stC ax te nm A ps.length c) _ _ H6.out)
   have I7:=setRow_heap (v1.setRow (w.heap.size+1) (stC ax te nm A ps.length c)) (w.heap.size+2) _ (stQ k none 0 0 0 0) _ _ G7
   have IB:=zAE (g:=w.heap.size+2) (zAE (g:=w.heap.size+1) HB.out (by omega) (stC ax te nm A ps.length c)) (by omega) (stQ k none 0 0 0 0)
   refine bodyPost_ret (zAp Tryz.results123 _ _ (w.heap.size+1) (w.heap.size+2) 45 129 (stC ax te nm A ps.length c) (stQ k none 0 0 0 0) (0,0) (0,0) _ _ rfl rfl I6 I7 Tryz.underlying45 rfl (by kernel_rfl) Tryz.underlying129 rfl (by kernel_rfl)) rfl ?_
   unfold PsPost;rw [HV.out];have hoI:PredsOwn ((v1.setRow (w.heap.size+1) (stC ax te nm A ps.length c)).setRow (w.heap.size+2) (stQ k none 0 0 0 0)) 0 A c ps:=zAC HO.out fun b hb=>by
    have n6:=zAT HO.out H6.out (fun cur h=>by injection h with _ h _;exact absurd h (by decide))
    have n7:=zAT HO.out H7.out (fun cur h=>by injection h with _ h _;exact absurd h (by decide))
    rw [setRow_other _ _ _ _ (fun e=>n7 (by rw [← e];exact hb)),setRow_other _ _ _ _ (fun e=>n6 (by rw [← e];exact hb))]
   exact ⟨A,c,by rw [show ((p+(k-p):Nat):Int)=(k:Int) by omega],hoI,IB⟩
  | true =>
   have HBR:=Lib.hid hbr
   clear hbr
   go_wp2_with fail;refine (zAn s k [91] wr hks hs (by decide) true HBR.out).mono ?_
   rintro e wc ⟨rfl,hb1⟩;have H5:=Lib.hid (zAB hb1 h5.out)
   have H6:=Lib.hid (zAB hb1 h6.out)
   have H7:=Lib.hid (zAB hb1 h7.out)
   have HB:=Lib.hid (hbl.out.trans (hb1.mono hbl.out.size))
   have HO:Hid (PredsOwn wc 0 A c ps):=zAC hown.out fun b hb=>hb1.block b (zAJ hown.out hb)
   have HZ:Hid (w.heap.size+2<wc.heap.size):=(Array.getElem?_eq_some_iff.1 H7.out).1
   clear hb1 h5 h6 h7 hbl hown;have c3:wc.cell? ⟨w.heap.size,3,none⟩=some (.slice A ps.length c):=zAA H5.out 3 _ rfl
   by_cases he5:ps.length=5
   ·have hb5:((ps.length:Int) == 5)=true:=by simp;omega
    have HV:Hid (V=.bad (k-p) 70):=by show _=_;rw [← hqp.out,zEJ HBR.out (by omega)];simp [Told.past]
    have HPL:Hid (ps.length=5):=he5
    clear he5
    go_wp2_with fail;clear c3;have HSV:Hid (∀ V:World,V.heap[w.heap.size]? = some (.cells (stC ax te nm A ps.length c) 45 (0,0))→(fun V=>V.cell? ⟨w.heap.size,0,none⟩=some (.int .i64 ax)∧V.cell? ⟨w.heap.size,1,none⟩=some (.int .i64 te)∧V.cell? ⟨w.heap.size,2,none⟩=some (.string ⟨nm.toArray⟩)∧V.cell? ⟨w.heap.size,3,none⟩=some (.slice A ps.length c)) V):=fun V h=>⟨zAA h 0 _ rfl,zAA h 1 _ rfl,zAA h 2 _ rfl,zAA h 3 _ rfl⟩
    refine wp_region_held_drew (S:=fun V=>V.cell? ⟨w.heap.size,0,none⟩=some (.int .i64 ax)∧V.cell? ⟨w.heap.size,1,none⟩=some (.int .i64 te)∧V.cell? ⟨w.heap.size,2,none⟩=some (.string ⟨nm.toArray⟩)∧V.cell? ⟨w.heap.size,3,none⟩=some (.slice A ps.length c)) (by kernel_rfl) (HSV.out _ H5.out) (fun hHeld=>?_)
    refine tkv 0 (h:=tkv 1 (h:=?_))
    refine rdy 2 (fun K hK=>?_)
    go_simp
    refine (zHj ((k:Int)) ((70:Int)) wc.drew).mono ?_
    rintro e vf ⟨rfl,hbf⟩;have hbf':Below wc.heap.size wc vf:=⟨hbf.os,hbf.tape,hbf.output,hbf.size,hbf.block⟩
    have F5:=zAB hbf' H5.out
    have F6:=zAB hbf' H6.out
    have F7:=zAB hbf' H7.out
    have FB:=HB.out.trans (hbf'.mono HB.out.size)
    refine hK.out _ _ (HSV.out _ F5) (fun hHeld=>?_)
    clear hK K
    try go_frame
    refine rdy 3 (fun K hK=>?_)
    refine zAb rfl 45 (.tmp 6) (.tmp 16) rfl (w.heap.size+1) #[.int .i64 ax,.int .i64 te,.string ⟨nm.toArray⟩,.slice A ps.length c] rfl rfl 45 zeroS F6 (by kernel_rfl) rfl (zBK ax te nm A ps.length c) ?_
    have G5:=(setRow_other vf (w.heap.size+1) w.heap.size (stC ax te nm A ps.length c) (by omega)).trans F5
    have G6:=setRow_heap vf (w.heap.size+1) _ (stC ax te nm A ps.length c) _ _ F6
    have G7:=(setRow_other vf (w.heap.size+1) (w.heap.size+2) (stC ax te nm A ps.length c) (by omega)).trans F7
    have GB:=zAE (g:=w.heap.size+1) FB (by omega) (stC ax te nm A ps.length c)
    refine hK.out _ _ (HSV.out _ G5) (fun hHeld=>?_)
    clear hK K
    try go_frame
    refine rdy 4 (fun K hK=>?_)
    refine zAb rfl 129 (.tmp 7) (.tmp 18) rfl (w.heap.size+2) (stQ 0 none 0 0 ((k:Int)) ((70:Int))) rfl rfl 129 zeroQ G7 (by kernel_rfl) rfl (zBL _ _ _ _ _ _) ?_
    have I5:=(setRow_other (vf.setRow (w.heap.size+1) (stC ax te nm A ps.length c)) (w.heap.size+2) w.heap.size (stQ 0 none 0 0 ((k:Int)) ((70:Int))) (by omega)).trans G5
    have I6:=(setRow_other (vf.setRow (w.heap.size+1) (stC ax te nm A ps.length c)) (w.heap.size+2) (w.heap.size+1) (stQ 0 none 0 0 ((k:Int)) ((70:Int))) (by omega)).trans G6
    have I7:=setRow_heap (vf.setRow (w.heap.size+1) (stC ax te nm A ps.length c)) (w.heap.size+2) _ (stQ 0 none 0 0 ((k:Int)) ((70:Int))) _ _ G7
    have IB:=zAE (g:=w.heap.size+2) GB (by omega) (stQ 0 none 0 0 ((k:Int)) ((70:Int)))
    refine hK.out _ _ (HSV.out _ I5) (fun hHeld=>?_)
    clear hK K
    try go_frame
    refine wpAnyH_done (by kernel_rfl) ?_ _
    clear hHeld
    go_wp2_with fail
    try simp only [Exit.inBlock,Exit.then]
    refine bodyPost_ret (zAp Tryz.results123 _ _ (w.heap.size+1) (w.heap.size+2) 45 129 (stC ax te nm A ps.length c) (stQ 0 none 0 0 ((k:Int)) ((70:Int))) (0,0) (0,0) _ _ rfl rfl I6 I7 Tryz.underlying45 rfl (by kernel_rfl) Tryz.underlying129 rfl (by kernel_rfl)) rfl ?_
    unfold PsPost;rw [HV.out];exact ⟨A,ps.length,c,by rw [show ((p+(k-p):Nat):Int)=(k:Int) by omega],IB⟩
   ·have hb5:((ps.length:Int) == 5)=false:=by simp;omega
    have HPL:Hid (¬ 5≤ps.length):=by show ¬ _;omega
    have hk1:k+1≤s.size:=by
     have:=zAU HBR.out
     rw [List.length_drop,HL.out] at this;simp at this;omega
    have k2:(k:Int)+1≤s.size:=by omega
    obtain ⟨X,hX⟩:∃ X,Hid (qpred (s.data.toList.drop (k+1))=X):=⟨_,rfl⟩
    have hX':Hid (qpred ((s.data.toList.drop k).drop 1)=X):=by show _=_;rw [List.drop_drop];exact hX.out
    have hwi:=zCD (s.data.toList.drop (k+1))
    rw [hX.out,List.length_drop,HL.out] at hwi;have HWI:=Lib.hid hwi
    clear hwi he5
    go_wp2_with fail;clear c3 hb5;refine (zMm s (k+1) _ wc hk1 hs X hX (by omega)).mono ?_
    rintro e v2 ⟨ki,nu,na,va,pa,pb,pe,rfl,hrel,hb2⟩;have H52:=Lib.hid (zAB hb2 H5.out)
    have H62:=Lib.hid (zAB hb2 H6.out)
    have H72:=Lib.hid (zAB hb2 H7.out)
    have HB2:=Lib.hid (HB.out.trans (hb2.mono HB.out.size))
    have HO2:Hid (PredsOwn v2 0 A c ps):=zAC HO.out fun b hb=>hb2.block b (zAJ HO.out hb)
    have HZ2:Hid (w.heap.size+2<v2.heap.size):=Nat.lt_of_lt_of_le HZ.out hb2.size
    clear hb2 H5 H6 H7 HB HO HZ;unfold partC
    go_upto_region 5 with (fail)
    obtain ⟨v3,hv3⟩:∃ v3,Hid (v2.alloc (.cells (partC ki nu na va pa pb pe) 191)=v3):=⟨_,rfl⟩
    have hv3':=hv3.out
    unfold partC at hv3';rw [hv3'];have hb3:Below v2.heap.size v2 v3:=by rw [← hv3.out];exact (Below.refl _ v2).alloc (Nat.le_refl _) _
    have H83:Hid (v3.heap[v2.heap.size]? = some (.cells (partC ki nu na va pa pb pe) 191 (0,0))):=by show _=_;rw [← hv3.out];exact heap_alloc_new v2 _
    obtain ⟨g8,hg8⟩:∃ g8,Hid (v2.heap.size=g8):=⟨_,rfl⟩
    have H53:=Lib.hid (zAB hb3 H52.out)
    have H63:=Lib.hid (zAB hb3 H62.out)
    have H73:=Lib.hid (zAB hb3 H72.out)
    have HB3:=Lib.hid (HB2.out.trans (hb3.mono HB2.out.size))
    have HO3:Hid (PredsOwn v3 0 A c ps):=zAC HO2.out fun b hb=>hb3.block b (zAJ HO2.out hb)
    have HZ3:Hid (w.heap.size+2<g8):=by show _<_;rw [← hg8.out];exact HZ2.out
    rw [hg8.out] at H83 ⊢;clear hb3 hv3' H52 H62 H72 HB2 HO2 HZ2;have d6:v3.cell? ⟨g8,6,none⟩=some (.int .i64 pe):=zAA H83.out 6 _ rfl
    have hz8:=HZ3.out
    cases X with
    | bad kk er =>
     obtain ⟨hpb,hpe⟩:=hrel
     subst hpb;subst hpe;have hne:(pe != 0)=true:=by simpa using HWI.out.2
     have HV:Hid (V=.bad (k-p+(1+kk)) pe):=by show _=_;rw [← hqp.out,zE6 HBR.out HPL.out hX'.out];rfl
     go_wp2_with fail;clear d6;obtain ⟨wc,hwc⟩:∃ wc,wc=v3:=⟨_,rfl⟩
     subst hwc;have H5:=H53
     have H6:=H63
     have H7:=H73
     have H8:=H83
     have HB:=HB3
     clear H53 H63 H73 H83 HB3;obtain ⟨pb,hpb⟩:∃ pb:Int,Hid (((k+1+kk:Nat):Int)=pb):=⟨_,rfl⟩
     rw [hpb.out] at H8 ⊢;have HSV:Hid (∀ V:World,V.heap[w.heap.size]? = some (.cells (stC ax te nm A ps.length c) 45 (0,0))→V.heap[g8]? = some (.cells (partC ki nu na va pa pb pe) 191 (0,0))→(fun V=>V.cell? ⟨w.heap.size,0,none⟩=some (.int .i64 ax)∧V.cell? ⟨w.heap.size,1,none⟩=some (.int .i64 te)∧V.cell? ⟨w.heap.size,2,none⟩=some (.string ⟨nm.toArray⟩)∧V.cell? ⟨w.heap.size,3,none⟩=some (.slice A ps.length c)∧V.cell? ⟨g8,4,none⟩=some (.int .i64 pa)∧V.cell? ⟨g8,5,none⟩=some (.int .i64 pb)∧V.cell? ⟨g8,6,none⟩=some (.int .i64 pe)) V):=fun V h h'=>⟨zAA h 0 _ rfl,zAA h 1 _ rfl,zAA h 2 _ rfl,zAA h 3 _ rfl,zAA h' 4 _ rfl,zAA h' 5 _ rfl,zAA h' 6 _ rfl⟩
     refine wp_region_held_drew (S:=fun V=>V.cell? ⟨w.heap.size,0,none⟩=some (.int .i64 ax)∧V.cell? ⟨w.heap.size,1,none⟩=some (.int .i64 te)∧V.cell? ⟨w.heap.size,2,none⟩=some (.string ⟨nm.toArray⟩)∧V.cell? ⟨w.heap.size,3,none⟩=some (.slice A ps.length c)∧V.cell? ⟨g8,4,none⟩=some (.int .i64 pa)∧V.cell? ⟨g8,5,none⟩=some (.int .i64 pb)∧V.cell? ⟨g8,6,none⟩=some (.int .i64 pe)) (by kernel_rfl) (HSV.out _ H5.out (H8.out)) (fun hHeld=>?_)
     refine tkv 0 (h:=tkv 1 (h:=tkv 2 (h:=tkv 3 (h:=tkv 4 (h:=?_)))))
     refine rdy 5 (fun K hK=>?_)
     go_simp
     refine (zHj (pb) (pe) wc.drew).mono ?_
     rintro e vf ⟨rfl,hbf⟩;have hbf':Below wc.heap.size wc vf:=⟨hbf.os,hbf.tape,hbf.output,hbf.size,hbf.block⟩
     have F5:=zAB hbf' H5.out
     have F6:=zAB hbf' H6.out
     have F7:=zAB hbf' H7.out
     have F8:=zAB hbf' H8.out
     have FB:=HB.out.trans (hbf'.mono HB.out.size)
     refine hK.out _ _ (HSV.out _ F5 (F8)) (fun hHeld=>?_)
     clear hK K
     try go_frame
     refine rdy 6 (fun K hK=>?_)
     refine zAb rfl 45 (.tmp 6) (.tmp 26) rfl (w.heap.size+1) #[.int .i64 ax,.int .i64 te,.string ⟨nm.toArray⟩,.slice A ps.length c] rfl rfl 45 zeroS F6 (by kernel_rfl) rfl (zBK ax te nm A ps.length c) ?_
     have G5:=(setRow_other vf (w.heap.size+1) w.heap.size (stC ax te nm A ps.length c) (by omega)).trans F5
     have G6:=setRow_heap vf (w.heap.size+1) _ (stC ax te nm A ps.length c) _ _ F6
     have G7:=(setRow_other vf (w.heap.size+1) (w.heap.size+2) (stC ax te nm A ps.length c) (by omega)).trans F7
     have G8:=(setRow_other vf (w.heap.size+1) g8 (stC ax te nm A ps.length c) (by omega)).trans F8
     have GB:=zAE (g:=w.heap.size+1) FB (by omega) (stC ax te nm A ps.length c)
     refine hK.out _ _ (HSV.out _ G5 (G8)) (fun hHeld=>?_)
     clear hK K
     try go_frame
     refine rdy 7 (fun K hK=>?_)
     refine zAb rfl 129 (.tmp 7) (.tmp 31) rfl (w.heap.size+2) (stQ 0 none 0 0 (pb) (pe)) rfl rfl 129 zeroQ G7 (by kernel_rfl) rfl (zBL _ _ _ _ _ _) ?_
     have I5:=(setRow_other (vf.setRow (w.heap.size+1) (stC ax te nm A ps.length c)) (w.heap.size+2) w.heap.size (stQ 0 none 0 0 (pb) (pe)) (by omega)).trans G5
     have I6:=(setRow_other (vf.setRow (w.heap.size+1) (stC ax te nm A ps.length c)) (w.heap.size+2) (w.heap.size+1) (stQ 0 none 0 0 (pb) (pe)) (by omega)).trans G6
     have I7:=setRow_heap (vf.setRow (w.heap.size+1) (stC ax te nm A ps.length c)) (w.heap.size+2) _ (stQ 0 none 0 0 (pb) (pe)) _ _ G7
     have I8:=(setRow_other (vf.setRow (w.heap.size+1) (stC ax te nm A ps.length c)) (w.heap.size+2) g8 (stQ 0 none 0 0 (pb) (pe)) (by omega)).trans G8
     have IB:=zAE (g:=w.heap.size+2) GB (by omega) (stQ 0 none 0 0 (pb) (pe))
     refine hK.out _ _ (HSV.out _ I5 (I8)) (fun hHeld=>?_)
     clear hK K
     try go_frame
     refine wpAnyH_done (by kernel_rfl) ?_ _
     clear hHeld
     go_wp2_with fail
     try simp only [Exit.inBlock,Exit.then]
     refine bodyPost_ret (zAp Tryz.results123 _ _ (w.heap.size+1) (w.heap.size+2) 45 129 (stC ax te nm A ps.length c) (stQ 0 none 0 0 (pb) (pe)) (0,0) (0,0) _ _ rfl rfl I6 I7 Tryz.underlying45 rfl (by kernel_rfl) Tryz.underlying129 rfl (by kernel_rfl)) rfl ?_
     unfold PsPost;rw [HV.out];exact ⟨A,ps.length,c,by rw [show ((p+(k-p+(1+kk)):Nat):Int)=pb by have:=hpb.out;omega],IB⟩
    | ok x n =>
     obtain ⟨rfl,rfl,rfl,rfl,hpa,hpe⟩:=hrel
     subst hpe;have HPA:=Lib.hid hpa
     have hkn:k+1+n≤s.size:=by have:=HWI.out.2;omega
     have k3:(k:Int)+1+n≤s.size:=by omega
     have pa0:(0:Int)≤pa:=by omega
     have pa1:pa≤s.size:=by omega
     clear hpa;have d4:v3.cell? ⟨g8,4,none⟩=some (.int .i64 pa):=zAA H83.out 4 _ rfl
     cases hcl:pre [93] (s.data.toList.drop (k+1+n)) with
     | false =>
      have HCL:=Lib.hid hcl
      have HV:Hid (V=.bad (k-p+(1+n)) 70):=by
       show _=_
       rw [← hqp.out,zEL HBR.out HPL.out hX'.out (by rw [List.drop_drop,show k+(1+n)=k+1+n by omega];exact hcl)];rfl
      clear hcl
      go_wp2_with fail;refine (zDQ s (k+1+n) _ [93] v3 hkn hs (by decide) false HCL.out HPA.out).mono ?_
      rintro e wc ⟨rfl,hb4⟩;have H5:=Lib.hid (zAB hb4 H53.out)
      have H6:=Lib.hid (zAB hb4 H63.out)
      have H7:=Lib.hid (zAB hb4 H73.out)
      have H8:=Lib.hid (zAB hb4 H83.out)
      have HB:=Lib.hid (HB3.out.trans (hb4.mono HB3.out.size))
      clear hb4 d4 d6 H53 H63 H73 H83 HB3;obtain ⟨ki,hki⟩:∃ a,Hid (x.kind=a):=⟨_,rfl⟩
      obtain ⟨nu,hnu⟩:∃ a,Hid (x.num=a):=⟨_,rfl⟩
      obtain ⟨na,hna⟩:∃ a,Hid (x.name=a):=⟨_,rfl⟩
      obtain ⟨va,hva⟩:∃ a,Hid (x.value=a):=⟨_,rfl⟩
      obtain ⟨pe,hpe⟩:∃ a:Int,Hid (a=0):=⟨0,rfl⟩
      rw [hki.out,hnu.out,hna.out,hva.out,← hpe.out] at H8
      go_wp2_with fail;have HSV:Hid (∀ V:World,V.heap[w.heap.size]? = some (.cells (stC ax te nm A ps.length c) 45 (0,0))→V.heap[g8]? = some (.cells (partC ki nu na va pa pb pe) 191 (0,0))→(fun V=>V.cell? ⟨w.heap.size,0,none⟩=some (.int .i64 ax)∧V.cell? ⟨w.heap.size,1,none⟩=some (.int .i64 te)∧V.cell? ⟨w.heap.size,2,none⟩=some (.string ⟨nm.toArray⟩)∧V.cell? ⟨w.heap.size,3,none⟩=some (.slice A ps.length c)∧V.cell? ⟨g8,4,none⟩=some (.int .i64 pa)∧V.cell? ⟨g8,5,none⟩=some (.int .i64 pb)∧V.cell? ⟨g8,6,none⟩=some (.int .i64 pe)) V):=fun V h h'=>⟨zAA h 0 _ rfl,zAA h 1 _ rfl,zAA h 2 _ rfl,zAA h 3 _ rfl,zAA h' 4 _ rfl,zAA h' 5 _ rfl,zAA h' 6 _ rfl⟩
      refine wp_region_held_drew (S:=fun V=>V.cell? ⟨w.heap.size,0,none⟩=some (.int .i64 ax)∧V.cell? ⟨w.heap.size,1,none⟩=some (.int .i64 te)∧V.cell? ⟨w.heap.size,2,none⟩=some (.string ⟨nm.toArray⟩)∧V.cell? ⟨w.heap.size,3,none⟩=some (.slice A ps.length c)∧V.cell? ⟨g8,4,none⟩=some (.int .i64 pa)∧V.cell? ⟨g8,5,none⟩=some (.int .i64 pb)∧V.cell? ⟨g8,6,none⟩=some (.int .i64 pe)) (by kernel_rfl) (HSV.out _ H5.out (H8.out)) (fun hHeld=>?_)
      refine tkv 0 (h:=tkv 1 (h:=tkv 2 (h:=?_)))
      refine rdy 3 (fun K hK=>?_)
      go_simp
      refine (zHj (pa) ((70:Int)) wc.drew).mono ?_
      rintro e vf ⟨rfl,hbf⟩;have hbf':Below wc.heap.size wc vf:=⟨hbf.os,hbf.tape,hbf.output,hbf.size,hbf.block⟩
      have F5:=zAB hbf' H5.out
      have F6:=zAB hbf' H6.out
      have F7:=zAB hbf' H7.out
      have F8:=zAB hbf' H8.out
      have FB:=HB.out.trans (hbf'.mono HB.out.size)
      refine hK.out _ _ (HSV.out _ F5 (F8)) (fun hHeld=>?_)
      clear hK K
      try go_frame
      refine rdy 4 (fun K hK=>?_)
      refine zAb rfl 45 (.tmp 6) (.tmp 37) rfl (w.heap.size+1) #[.int .i64 ax,.int .i64 te,.string ⟨nm.toArray⟩,.slice A ps.length c] rfl rfl 45 zeroS F6 (by kernel_rfl) rfl (zBK ax te nm A ps.length c) ?_
      have G5:=(setRow_other vf (w.heap.size+1) w.heap.size (stC ax te nm A ps.length c) (by omega)).trans F5
      have G6:=setRow_heap vf (w.heap.size+1) _ (stC ax te nm A ps.length c) _ _ F6
      have G7:=(setRow_other vf (w.heap.size+1) (w.heap.size+2) (stC ax te nm A ps.length c) (by omega)).trans F7
      have G8:=(setRow_other vf (w.heap.size+1) g8 (stC ax te nm A ps.length c) (by omega)).trans F8
      have GB:=zAE (g:=w.heap.size+1) FB (by omega) (stC ax te nm A ps.length c)
      refine hK.out _ _ (HSV.out _ G5 (G8)) (fun hHeld=>?_)
      clear hK K
      try go_frame
      refine rdy 5 (fun K hK=>?_)
      refine zAb rfl 129 (.tmp 7) (.tmp 40) rfl (w.heap.size+2) (stQ 0 none 0 0 (pa) ((70:Int))) rfl rfl 129 zeroQ G7 (by kernel_rfl) rfl (zBL _ _ _ _ _ _) ?_
      have I5:=(setRow_other (vf.setRow (w.heap.size+1) (stC ax te nm A ps.length c)) (w.heap.size+2) w.heap.size (stQ 0 none 0 0 (pa) ((70:Int))) (by omega)).trans G5
      have I6:=(setRow_other (vf.setRow (w.heap.size+1) (stC ax te nm A ps.length c)) (w.heap.size+2) (w.heap.size+1) (stQ 0 none 0 0 (pa) ((70:Int))) (by omega)).trans G6
      have I7:=setRow_heap (vf.setRow (w.heap.size+1) (stC ax te nm A ps.length c)) (w.heap.size+2) _ (stQ 0 none 0 0 (pa) ((70:Int))) _ _ G7
      have I8:=(setRow_other (vf.setRow (w.heap.size+1) (stC ax te nm A ps.length c)) (w.heap.size+2) g8 (stQ 0 none 0 0 (pa) ((70:Int))) (by omega)).trans G8
      have IB:=zAE (g:=w.heap.size+2) GB (by omega) (stQ 0 none 0 0 (pa) ((70:Int)))
      refine hK.out _ _ (HSV.out _ I5 (I8)) (fun hHeld=>?_)
      clear hK K
      try go_frame
      refine wpAnyH_done (by kernel_rfl) ?_ _
      clear hHeld
      go_wp2_with fail
      try simp only [Exit.inBlock,Exit.then]
      refine bodyPost_ret (zAp Tryz.results123 _ _ (w.heap.size+1) (w.heap.size+2) 45 129 (stC ax te nm A ps.length c) (stQ 0 none 0 0 (pa) ((70:Int))) (0,0) (0,0) _ _ rfl rfl I6 I7 Tryz.underlying45 rfl (by kernel_rfl) Tryz.underlying129 rfl (by kernel_rfl)) rfl ?_
      unfold PsPost;rw [HV.out];exact ⟨A,ps.length,c,by rw [show ((p+(k-p+(1+n)):Nat):Int)=pa by have:=HPA.out;omega],IB⟩
     | true =>
      have HCL:=Lib.hid hcl
      have hk2:k+1+n+1≤s.size:=by
       have:=zAU hcl
       rw [List.length_drop,HL.out] at this;simp at this;omega
      have HQP:Hid ((qpreds (s.data.toList.drop (k+1+n+1)) (ps++[x])).past (k+1+n+1-p)=V):=by
       show _=_
       rw [← hqp.out,zEM HBR.out HPL.out hX'.out (by rw [List.drop_drop,show k+(1+n)=k+1+n by omega];exact hcl),List.drop_drop,Told.past_past,show k+(n+2)=k+1+n+1 by omega,show k-p+(n+2)=k+1+n+1-p by omega]
      have pa2:pa+1≤s.size:=by have:=HPA.out;omega
      clear hcl
      go_wp2_with fail;refine (zDQ s (k+1+n) _ [93] v3 hkn hs (by decide) true HCL.out HPA.out).mono ?_
      rintro e v4 ⟨rfl,hb4⟩;have H5:=Lib.hid (zAB hb4 H53.out)
      have H6:=Lib.hid (zAB hb4 H63.out)
      have H7:=Lib.hid (zAB hb4 H73.out)
      have H8:=Lib.hid (zAB hb4 H83.out)
      have HB:=Lib.hid (HB3.out.trans (hb4.mono HB3.out.size))
      have HO:Hid (PredsOwn v4 0 A c ps):=zAC HO3.out fun b hb=>hb4.block b (zAJ HO3.out hb)
      clear hb4 d4 d6 H53 H63 H73 H83 HB3 HO3;obtain ⟨pa',pc,v5,hr5,ho5,hg5,hf5⟩:=zEU HO.out (by omega) x
      have n5:=zAT HO.out H5.out (fun cur h=>by injection h with _ h _;exact absurd h (by decide))
      have n6:=zAT HO.out H6.out (fun cur h=>by injection h with _ h _;exact absurd h (by decide))
      have n7:=zAT HO.out H7.out (fun cur h=>by injection h with _ h _;exact absurd h (by decide))
      have n8:=zAT HO.out H8.out (fun cur h=>by injection h with _ h _;exact absurd h (by decide))
      have H55:Hid (v5.heap[w.heap.size]? = some (.cells (stC ax te nm A ps.length c) 45 (0,0))):=(hg5.block _ (Array.getElem?_eq_some_iff.1 H5.out).1 (Ne.symm n5)).trans H5.out
      have H65:Hid (v5.heap[w.heap.size+1]? = some (.cells zeroS 45 (0,0))):=(hg5.block _ (Array.getElem?_eq_some_iff.1 H6.out).1 (Ne.symm n6)).trans H6.out
      have H75:Hid (v5.heap[w.heap.size+2]? = some (.cells zeroQ 129 (0,0))):=(hg5.block _ (Array.getElem?_eq_some_iff.1 H7.out).1 (Ne.symm n7)).trans H7.out
      have H85:Hid (v5.heap[g8]? = some (.cells (partC x.kind x.num x.name x.value pa pb 0) 191 (0,0))):=(hg5.block _ (Array.getElem?_eq_some_iff.1 H8.out).1 (Ne.symm n8)).trans H8.out
      have HB5:Hid (Below w.heap.size w v5):=HB.out.grown hg5 HB.out.size hfr.out
      have HF5:Hid (∀ b,(Value.slice pa' (ps++[x]).length pc).ownBlock=some b→w.heap.size≤b):=fun b hb=>by
       rcases hf5 b hb with h | h
       ·exact hfr.out b h
       ·exact Nat.le_trans HB.out.size h
      have HO5:=Lib.hid ho5
      clear ho5 hg5 hf5 n5 n6 n7 n8;have c3:v4.cell? ⟨w.heap.size,3,none⟩=some (.slice A ps.length c):=zAA H5.out 3 _ rfl
      have e0:v4.cell? ⟨g8,0,none⟩=some (.int .i64 x.kind):=zAA H8.out 0 _ rfl
      have e1:v4.cell? ⟨g8,1,none⟩=some (.int .i64 x.num):=zAA H8.out 1 _ rfl
      have e2:v4.cell? ⟨g8,2,none⟩=some (.string ⟨x.name.toArray⟩):=zAA H8.out 2 _ rfl
      have e3:v4.cell? ⟨g8,3,none⟩=some (.string ⟨x.value.toArray⟩):=zAA H8.out 3 _ rfl
      have fr:=zAV H55.out 3
      have fc:v5.cell? ⟨w.heap.size,3,none⟩=some (.slice A ps.length c):=zAA H55.out 3 _ rfl
      go_upto_region 10 with (at_builtin;refine zAK _ rfl _ _ 43 rfl (.slice A ps.length c) (.slice (some ⟨v4.heap.size,0,none⟩) 1 1) (by simp [Act.eval]) (by simp [Act.eval]) hr5 ?_)
      clear c3 e0 e1 e2 e3 fr fc hr5;have H56:Hid ((v5.setCell ⟨w.heap.size,3,none⟩ (.slice pa' (ps++[x]).length pc)).heap[w.heap.size]? = some (.cells (stC ax te nm pa' (ps++[x]).length pc) 45 (0,0))):=Lib.heap_setCell_same (i:=3) H55.out _
      have hoth:∀ b,b≠w.heap.size→(v5.setCell ⟨w.heap.size,3,none⟩ (.slice pa' (ps++[x]).length pc)).heap[b]? = v5.heap[b]?:=fun b hb=>Below.heap_setCell _ _ _ _ hb
      have n5:=zAT HO5.out H55.out (fun cur h=>by injection h with _ h _;exact absurd h (by decide))
      have H66:=(hoth (w.heap.size+1) (by omega)).trans H65.out
      have H76:=(hoth (w.heap.size+2) (by omega)).trans H75.out
      have H86:=(hoth g8 (by omega)).trans H85.out
      have HB6:Below w.heap.size w (v5.setCell ⟨w.heap.size,3,none⟩ (.slice pa' (ps++[x]).length pc)):=HB5.out.setCell (Nat.le_refl _) _
      have HO6:PredsOwn (v5.setCell ⟨w.heap.size,3,none⟩ (.slice pa' (ps++[x]).length pc)) 0 pa' pc (ps++[x]):=zAC HO5.out fun b hb=>hoth b (fun e=>n5 (by rw [← e];exact hb))
      obtain ⟨v6,hv6⟩:∃ v6,Hid (v5.setCell ⟨w.heap.size,3,none⟩ (.slice pa' (ps++[x]).length pc)=v6):=⟨_,rfl⟩
      rw [hv6.out] at H56 H66 H76 H86 HB6 HO6;have HO6':=Lib.hid HO6
      have H66':=Lib.hid H66
      have H76':=Lib.hid H76
      have HB6':=Lib.hid HB6
      have d4:v6.cell? ⟨g8,4,none⟩=some (.int .i64 pa):=zAA H86 4 _ rfl
      clear hoth n5 H66 H76 H86 HB6 HO6 H55 H65 H75 H85;have hv6':=hv6.out
      first | rw [hv6'] | (simp only [List.length_append,List.length_singleton] at hv6';rw [hv6'])
      clear hv6'
      go_wp2_with fail
      go_roundw
      case rel=>exact ⟨k+1+n+1,ps++[x],pa',pc,by omega,hk2,by rw [HPA.out];go_num,by have:=HPL.out;simp;omega,HQP.out,H56.out,H66'.out,H76'.out,HO6'.out,HF5.out,HB6'.out⟩
      case measure=>rw [HPA.out];simp [intOf];omega
end
end Go.Proofs.YtcombcoilpmnkaaGreat

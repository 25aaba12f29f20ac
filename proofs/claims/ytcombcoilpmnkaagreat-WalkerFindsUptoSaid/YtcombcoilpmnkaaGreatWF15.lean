/-
  Texts of this claim, joined (by a program of the claim's author): Pq9, PathLaw, PathShort.
-/
import Derived.Test.YtcombcoilpmnkaaGreatWF1
import Derived.Test.YtcombcoilpmnkaaGreatWF14
import Derived.Test.YtcombcoilpmnkaaGreatWF11
namespace Go.Proofs.YtcombcoilpmnkaaGreat
set_option maxRecDepth 100000
set_option maxHeartbeats 16000000
section
open Go.RowKit
def axesC:Array Value:=#[.string ⟨(axisT 0).toArray⟩,.string ⟨(axisT 1).toArray⟩,.string ⟨(axisT 2).toArray⟩,.string ⟨(axisT 3).toArray⟩,.string ⟨(axisT 4).toArray⟩,.string ⟨(axisT 5).toArray⟩,.string ⟨(axisT 6).toArray⟩,.string ⟨(axisT 7).toArray⟩,.string ⟨(axisT 8).toArray⟩]
def zeroX:Array Value:=#[.string ⟨#[]⟩,.string ⟨#[]⟩,.string ⟨#[]⟩,.string ⟨#[]⟩,.string ⟨#[]⟩,.string ⟨#[]⟩,.string ⟨#[]⟩,.string ⟨#[]⟩,.string ⟨#[]⟩]
theorem zM6 (w:World):(Instr.index 176 (.agg axesC) (.int .i64 0)).run Tryz.prog w=.ok (.string ⟨(axisT 0).toArray⟩) w:=by kernel_rfl
theorem zM7 (w:World):(Instr.index 176 (.agg axesC) (.int .i64 1)).run Tryz.prog w=.ok (.string ⟨(axisT 1).toArray⟩) w:=by kernel_rfl
theorem zM8 (w:World):(Instr.index 176 (.agg axesC) (.int .i64 2)).run Tryz.prog w=.ok (.string ⟨(axisT 2).toArray⟩) w:=by kernel_rfl
theorem zM9 (w:World):(Instr.index 176 (.agg axesC) (.int .i64 3)).run Tryz.prog w=.ok (.string ⟨(axisT 3).toArray⟩) w:=by kernel_rfl
theorem zNA (w:World):(Instr.index 176 (.agg axesC) (.int .i64 4)).run Tryz.prog w=.ok (.string ⟨(axisT 4).toArray⟩) w:=by kernel_rfl
theorem zNB (w:World):(Instr.index 176 (.agg axesC) (.int .i64 5)).run Tryz.prog w=.ok (.string ⟨(axisT 5).toArray⟩) w:=by kernel_rfl
theorem zNC (w:World):(Instr.index 176 (.agg axesC) (.int .i64 6)).run Tryz.prog w=.ok (.string ⟨(axisT 6).toArray⟩) w:=by kernel_rfl
theorem zND (w:World):(Instr.index 176 (.agg axesC) (.int .i64 7)).run Tryz.prog w=.ok (.string ⟨(axisT 7).toArray⟩) w:=by kernel_rfl
theorem zNE (w:World):(Instr.index 176 (.agg axesC) (.int .i64 8)).run Tryz.prog w=.ok (.string ⟨(axisT 8).toArray⟩) w:=by kernel_rfl
theorem zHg (n:Nat) (h:n<9) (w:World):(Instr.index 176 (.agg axesC) (.int .i64 (n:Int))).run Tryz.prog w=.ok (.string ⟨(axisT n).toArray⟩) w:=by
 match n,h with
 | 0,_=>exact zM6 w
 | 1,_=>exact zM7 w
 | 2,_=>exact zM8 w
 | 3,_=>exact zM9 w
 | 4,_=>exact zNA w
 | 5,_=>exact zNB w
 | 6,_=>exact zNC w
 | 7,_=>exact zND w
 | 8,_=>exact zNE w
 | n+9,h=>omega
theorem zKj (w:World):Calls Tryz.prog 120 #[] w (Ret w (.agg axesC)):=by
 go_enter Tryz.func120,Tryz.ntmps120
 go_wp2_with fail
 try simp only [Exit.inBlock,Exit.then]
 refine bodyPost_ret (results_cell_row Tryz.results120 _ _ w.heap.size 176 axesC (0,0) _ rfl (heap_alloc_new w _) Tryz.underlying176 rfl (by kernel_rfl)) rfl ?_
 exact ⟨rfl,(Below.refl _ w).alloc (Nat.le_refl _) _⟩
def StepDone (w:World) (B b:Nat) (r:QRdr) (g:Nat) (S:List QSlot) (V:Told StepD) (e:Ending) (w':World):Prop :=
 Below B w w'∧match V with
 | .ok s n=>e=.returned (.bool true)∧QAt w' b { r with pos:=r.pos+n } ∧ ∃ A' c',StepsOwn w' B (some ⟨g,0,none⟩) r.c (S++[(s,A',c')])∧SPreds w' B (S++[(s,A',c')])
 | .bad k c=>e=.returned (.bool false) ∧ ∃ p:Nat,QAt w' b { r with pos:=p,bad:=((r.pos+k:Nat):Int),code:=c }
theorem StepsOwn.cells {w:World} {B b g c o:Nat} {r:QRdr} {S:List QSlot} {x:QSlot} (h:StepsOwn w B (some ⟨g,0,none⟩) c (S++[x])) (hq:QAt w b r) (ho:S.length * 4=o) :
  b≠g∧B≤g∧(w.cell? ⟨g,o,none⟩=some (.int .i64 x.1.axis)∧w.cell? ⟨g,o+1,none⟩=some (.int .i64 x.1.test)∧w.cell? ⟨g,o+2,none⟩=some (.string ⟨x.1.name.toArray⟩)∧w.cell? ⟨g,o+3,none⟩=some (.slice x.2.1 x.1.preds.length x.2.2)) ∧ ∀ j,w.frozen? ⟨g,j,none⟩=false:=by
 obtain ⟨k1,k2,⟨cur,k3⟩,k4⟩:=h.last
 rw [ho] at k4;refine ⟨fun e=>?_,k1,⟨k4 0 _ rfl,k4 1 _ rfl,k4 2 _ rfl,k4 3 _ rfl⟩,fun j=>frozen_of_row w g j _ _ k3⟩
 unfold QAt at hq;rw [e,k3] at hq
 injection hq with hq
 injection hq with _ hq
 exact absurd hq (by decide)
structure StepAt (w0:World) (B b:Nat) (r:QRdr) (g:Nat) (S:List QSlot) (x:QSlot) (w:World):Prop where
 q:QAt w b r
 s:StepsOwn w B (some ⟨g,0,none⟩) r.c (S++[x])
 p:SPreds w B (S++[x])
 below:Below B w0 w
section
variable {w0 w w':World} {B b:Nat} {r r':QRdr} {g:Nat} {S:List QSlot} {x:QSlot}
theorem StepAt.called (h:StepAt w0 B b r g S x w) (hB:B≤b) (hBw:B≤w0.heap.size) (hc:r'.c=r.c) (h2:QAt w' b r') (hg:w.grownBy w' (some b)):StepAt w0 B b r' g S x w' :=
 ⟨h2,by rw [hc];exact h.s.grown h.q hg,h.p.grown h.q hg,h.below.trans (zAh hg hB (Nat.le_trans hBw h.below.size))⟩
theorem StepAt.quiet (h:StepAt w0 B b r g S x w) (hBw:B≤w0.heap.size) (hb:Below w.heap.size w w'):StepAt w0 B b r g S x w' :=
 ⟨h.q.below hb,zCN h.s hb,fun y hy=>zCN (h.p y hy) hb,h.below.trans (hb.mono (Nat.le_trans hBw h.below.size))⟩
theorem StepAt.write (h:StepAt w0 B b r g S x w) (y:QSlot) (j:Nat) (u:Value) (hj:j<4) (hy:cellsS y=(cellsS x).set j u) (h1:y.1.preds=x.1.preds) (h2:y.2=x.2) (o:Nat) (ho:S.length * 4=o):StepAt w0 B b r g S y (w.setCell ⟨g,o+j,none⟩ u):=by
 obtain ⟨hne,hBg,_,_⟩:=h.s.cells h.q ho
 have hg:=Lib.grownBy_setCell w g (o+j) u
 have h3:=h.s.set (y:=y) j u hj hy
 rw [ho] at h3;exact ⟨h.q.other hg hne,h3,(h.p.stored h.s hg).same h1 h2,h.below.setCell hBg _⟩
end
structure LoopAt (w7:World) (B b:Nat) (r:QRdr) (g:Nat) (S:List QSlot) (x:QSlot) (w:World):Prop where
 q:QAt w b r
 s:StepsOwn w B (some ⟨g,0,none⟩) r.c (S++[x])
 p:PredsOwn w w7.heap.size x.2.1 x.2.2 x.1.preds
 below:Below B w7 w
 same:∀ k,k<w7.heap.size→k≠b→k≠g→w.heap[k]? = w7.heap[k]?
section
variable {w7 w w':World} {B b:Nat} {r r':QRdr} {g:Nat} {S:List QSlot} {x:QSlot}
theorem LoopAt.called (h:LoopAt w7 B b r g S x w) (hB:B≤b) (hBw:B≤w7.heap.size) (hc:r'.c=r.c) (h2:QAt w' b r') (hg:w.grownBy w' (some b)):LoopAt w7 B b r' g S x w' :=
 ⟨h2,by rw [hc];exact h.s.grown h.q hg,World.ownsRow.kept h.p hg (zER h.q h.p (by decide)),h.below.trans (zAh hg hB (Nat.le_trans hBw h.below.size)),
  fun k hk h1 h2=>(hg.block k (Nat.lt_of_lt_of_le hk h.below.size) (by intro e;injection e with e;exact h1 e)).trans (h.same k hk h1 h2)⟩
theorem LoopAt.called' (h:LoopAt w7 B b r g S x w) (hB:B≤b) (hBw:B≤w7.heap.size) (h2:QAt w' b r') (hc:r'.c=r.c) (hg:w.grownBy w' (some b)):LoopAt w7 B b r' g S x w':=h.called hB hBw hc h2 hg
theorem LoopAt.quiet (h:LoopAt w7 B b r g S x w) (hBw:B≤w7.heap.size) (hb:Below w.heap.size w w'):LoopAt w7 B b r g S x w' :=
 ⟨h.q.below hb,zCN h.s hb,zCN h.p hb,h.below.trans (hb.mono (Nat.le_trans hBw h.below.size)),fun k hk h1 h2=>(hb.block k (Nat.lt_of_lt_of_le hk h.below.size)).trans (h.same k hk h1 h2)⟩
theorem zLH {e:TypeId} {size:Nat} {v:Value} {n:Nat} {xs:List Value} (h:w.ownsRow B e size v n xs) (hk:∀ k,v.ownBlock=some k→w'.heap[k]? = w.heap[k]?):w'.ownsRow B e size v n xs:=by
 refine ⟨h.1,?_⟩
 rcases h.2 with h | ⟨g,cap,cur,h1,h2,h3,h4⟩
 ·exact .inl h
 ·exact .inr ⟨g,cap,cur,h1,h2,by rw [hk g (by rw [h1];rfl)];exact h3,h4⟩
theorem zKE {B':Nat} {e:TypeId} {size:Nat} {v:Value} {n:Nat} {xs:List Value} (h:w.ownsRow B e size v n xs) (hB:B'≤B):w.ownsRow B' e size v n xs:=by
 refine ⟨h.1,?_⟩
 rcases h.2 with h | ⟨g,cap,cur,h1,h2,h3⟩
 ·exact .inl h
 ·exact .inr ⟨g,cap,cur,h1,Nat.le_trans hB h2,h3⟩
theorem LoopAt.fin (h:LoopAt w7 B b r g S x w) (hBw:B≤w7.heap.size) {r7:QRdr} {x7:QSlot} {c7:Nat} (hq:QAt w7 b r7) (hs:StepsOwn w7 B (some ⟨g,0,none⟩) c7 (S++[x7])) (hp:SPreds w7 B (S++[x7])):SPreds w B (S++[x]):=by
 intro y hy;rcases List.mem_append.1 hy with hy | hy
 ·have h1:=hp y (by simp [hy])
  refine zLH h1 fun k hk=>?_
  obtain ⟨_,hlt,cur,hc⟩:=zBR h1 k hk
  obtain ⟨_,_,⟨cur',hc'⟩,_⟩:=hs.last
  refine h.same k hlt (fun e=>?_) (fun e=>?_)
  ·subst e
   unfold QAt at hq;rw [hc] at hq
   injection hq with hq
   injection hq with _ hq
   exact absurd hq (by decide)
  ·subst e
   rw [hc] at hc'
   injection hc' with hc'
   injection hc' with _ hc'
   exact absurd hc' (by decide)
 ·simp at hy;subst hy
  exact zKE h.p hBw
end
def BoxP (w:World) (g:Nat) (z:PredD):Prop:=w.cell? ⟨g,0,none⟩=some (.int .i64 z.kind)∧w.cell? ⟨g,1,none⟩=some (.int .i64 z.num)∧w.cell? ⟨g,2,none⟩=some (.string ⟨z.name.toArray⟩)∧w.cell? ⟨g,3,none⟩=some (.string ⟨z.value.toArray⟩)
theorem BoxP.keep {w w':World} {g:Nat} {z:PredD} (h:BoxP w g z) (hk:∀ j,w'.cell? ⟨g,j,none⟩=w.cell? ⟨g,j,none⟩):BoxP w' g z:=by
 obtain ⟨h0,h1,h2,h3⟩:=h
 exact ⟨(hk 0).trans h0,(hk 1).trans h1,(hk 2).trans h2,(hk 3).trans h3⟩
def predsTold (k:Nat) (ax:Int) (t:Int × List UInt8):Told (List PredD)→Told StepD
 | .bad j e=>.bad (k+j) e
 | .ok ps m=>.ok ⟨ax,t.1,t.2,ps⟩ (k+m)
theorem zH4 (b B:Nat) (r:QRdr) (w:World) (h:QAt w b r) (hB:B≤b) (hBw:B≤w.heap.size) (hp:r.pos≤r.s.size) (hs:r.s.size≤1000000000) (g:Nat) (S:List QSlot) (hS:Hid (StepsOwn w B (some ⟨g,0,none⟩) r.c (S++[(⟨0,0,[],[]⟩,none,0)]))) (hP:Hid (SPreds w B (S++[(⟨0,0,[],[]⟩,none,0)])))
  (o:Nat) (ho:Hid (S.length * 4=o)) (V:Told StepD) (hV:Hid (qstep (r.s.data.toList.drop r.pos)=V)) :
  Calls Tryz.prog 101 #[.pointer (some ⟨b,0,none⟩),.pointer (some ⟨g,o,none⟩)] w (StepDone w B b r g S V):=by
 have HL:=Lib.hid (zAH r.s)
 have HQ:Hid (StepAt w B b r g S (⟨0,0,[],[]⟩,none,0) w):=⟨h,hS.out,hP.out,Below.refl _ _⟩
 have hVV:=hV.out
 unfold qstep at hVV;clear hV h hS hP
 go_enter Tryz.func101,Tryz.ntmps101
 go_wp2_with fail;cases hq:pre [46,46] (r.s.data.toList.drop r.pos) with
 | true =>
  have HB:Hid (pre [46,46] (r.s.data.toList.drop r.pos)=true):=hq
  rw [if_pos hq] at hVV;have HV:Hid (V=.ok ⟨4,4,[],[]⟩ 2):=hVV.symm
  clear hq hVV;refine (zAw b r w HQ.out.q [46,46] hp hs true HB (by decide)).mono ?_
  rintro e w2 ⟨rfl,h2,hg2⟩;have HQ2:Hid (StepAt w B b { r with pos:=r.pos+2 } g S (⟨0,0,[],[]⟩,none,0) w2):=HQ.out.called hB hBw rfl h2 hg2
  obtain ⟨hne,hBg,⟨c0,c1,c2,c3⟩,fz⟩:=HQ2.out.s.cells HQ2.out.q ho.out
  have f0:=fz o
  have f1:=fz (o+1)
  clear h2 c2 c3 fz
  go_wp2_with fail
  go_ret;rw [HV.out];have h3:=(HQ2.out.write (⟨4,0,[],[]⟩,none,0) 0 (.int .i64 4) (by decide) rfl rfl rfl o ho.out).write (⟨4,4,[],[]⟩,none,0) 1 (.int .i64 4) (by decide) rfl rfl rfl o ho.out
  exact ⟨h3.below,rfl,h3.q,none,0,h3.s,h3.p⟩
 | false =>
  have HB:Hid (pre [46,46] (r.s.data.toList.drop r.pos)=false):=hq
  rw [if_neg (by rw [hq];decide)] at hVV
  clear hq;refine (zAw b r w HQ.out.q [46,46] hp hs false HB (by decide)).mono ?_
  rintro e w2 ⟨rfl,h2,hg2⟩;have HQ2:Hid (StepAt w B b r g S (⟨0,0,[],[]⟩,none,0) w2):=HQ.out.called hB hBw rfl h2 hg2
  clear h2
  go_wp2_with fail;cases hq:pre [46] (r.s.data.toList.drop r.pos) with
  | true =>
   have HB:Hid (pre [46] (r.s.data.toList.drop r.pos)=true):=hq
   rw [if_pos hq] at hVV;have HV:Hid (V=.ok ⟨8,4,[],[]⟩ 1):=hVV.symm
   clear hq hVV;refine (zAw b r w2 HQ2.out.q [46] hp hs true HB (by decide)).mono ?_
   rintro e w3 ⟨rfl,h3,hg3⟩;have HQ3:Hid (StepAt w B b { r with pos:=r.pos+1 } g S (⟨0,0,[],[]⟩,none,0) w3):=HQ2.out.called hB hBw rfl h3 hg3
   obtain ⟨hne,hBg,⟨c0,c1,c2,c3⟩,fz⟩:=HQ3.out.s.cells HQ3.out.q ho.out
   have f0:=fz o
   have f1:=fz (o+1)
   clear h3 c2 c3 fz
   go_wp2_with fail
   go_ret;rw [HV.out];have h3:=(HQ3.out.write (⟨8,0,[],[]⟩,none,0) 0 (.int .i64 8) (by decide) rfl rfl rfl o ho.out).write (⟨8,4,[],[]⟩,none,0) 1 (.int .i64 4) (by decide) rfl rfl rfl o ho.out
   exact ⟨h3.below,rfl,h3.q,none,0,h3.s,h3.p⟩
  | false =>
   have HB:Hid (pre [46] (r.s.data.toList.drop r.pos)=false):=hq
   rw [if_neg (by rw [hq];decide)] at hVV
   clear hq;refine (zAw b r w2 HQ2.out.q [46] hp hs false HB (by decide)).mono ?_
   rintro e w3 ⟨rfl,h3,hg3⟩;have HQ3:Hid (StepAt w B b r g S (⟨0,0,[],[]⟩,none,0) w3):=HQ2.out.called hB hBw rfl h3 hg3
   obtain ⟨hne,hBg,⟨c0,c1,c2,c3⟩,fz⟩:=HQ3.out.s.cells HQ3.out.q ho.out
   have f0:=fz o
   obtain ⟨W4,hW4⟩:∃ W4,Hid (W4=w3.setCell ⟨g,o,none⟩ (.int .i64 1)):=⟨_,rfl⟩
   have HQ4:Hid (StepAt w B b r g S (⟨1,0,[],[]⟩,none,0) W4):=by
    show StepAt _ _ _ _ _ _ _ _
    rw [hW4.out];exact HQ3.out.write (⟨1,0,[],[]⟩,none,0) 0 (.int .i64 1) (by decide) rfl rfl rfl o ho.out
   obtain ⟨X,hX⟩:∃ X,Hid (axisN (r.s.data.toList.drop r.pos)=X):=⟨_,rfl⟩
   simp only [hX.out,List.drop_drop] at hVV;clear h3 c1 c2 c3 fz
   go_wp2_with fail;rw [← hW4.out];refine (zKj W4).mono ?_
   rintro e w5 ⟨rfl,hb5⟩;have HQ5:Hid (StepAt w B b r g S (⟨1,0,[],[]⟩,none,0) w5):=HQ4.out.quiet hBw hb5
   have HVV:=Lib.hid hVV
   clear hVV c0 f0 hne hBg
   go_wp2_with fail
   go_loopw [32] (fun i wr=>∃ (n:Nat),n≤9∧i=.int .i64 (n:Int)∧Hid (StepAt w B b r g S (⟨1,0,[],[]⟩,none,0) wr)∧Hid (if n=0 then axisF 8 1 (r.s.data.toList.drop r.pos)=X else axisF (9-n) n (r.s.data.toList.drop r.pos)=X)) (fun i _=>9-(intOf i).toNat)
   case atStart=>exact ⟨0,by decide,by go_num,HQ5.out,by show _;rw [if_pos rfl];exact hX.out⟩
   case' round =>
    obtain ⟨n,hn9,rfl,HQr,hin⟩:=hrel
    by_cases hlt:n<9
    focus
     have k0:(n:Int)<9:=by omega
     have k1:(0:Int)≤(n:Int):=by omega
     by_cases hn0:n=0
     ·subst hn0
      have hin':=hin.out
      rw [if_pos rfl] at hin';have HIN:=Lib.hid hin'
      clear hin hin'
      go_wp2_with fail;rw [zM6 wr]
      go_simp
      go_wp2_with fail
      go_roundw
      case rel=>exact ⟨1,by decide,by go_num,HQr,by show _;rw [if_neg (by decide)];exact HIN.out⟩
      case measure=>simp [intOf]
     have k2:(0:Int)<(n:Int):=by omega
     obtain ⟨f,hf⟩:∃ f,9-n=f+1:=⟨8-n,by omega⟩
     have hin':=hin.out
     rw [if_neg hn0,hf,axisF] at hin';have hlen:(axisT n).length≤1000:=by
      have:n=1∨n=2∨n=3∨n=4∨n=5∨n=6∨n=7∨n=8:=by omega
      rcases this with rfl | rfl | rfl | rfl | rfl | rfl | rfl | rfl <;> decide
     cases hm:pre (axisT n) (r.s.data.toList.drop r.pos)
     ·have HM:Hid (pre (axisT n) (r.s.data.toList.drop r.pos)=false):=hm
      rw [if_neg (by rw [hm];decide)] at hin'
      have HIN:Hid (axisF (9-(n+1)) (n+1) (r.s.data.toList.drop r.pos)=X):=by show _=_;rw [show 9-(n+1)=f by omega];exact hin'
      clear hin hin' hm
      go_wp2_with fail;rw [zHg n hlt wr]
      go_simp
      go_wp2_with fail;refine (zAw b r wr HQr.out.q (axisT n) hp hs false HM hlen).mono ?_
      rintro e w6 ⟨rfl,h6,hg6⟩;have HQ6:Hid (StepAt w B b r g S (⟨1,0,[],[]⟩,none,0) w6):=HQr.out.called hB hBw rfl h6 hg6
      clear h6
      go_wp2_with fail
      go_roundw
      case rel=>exact ⟨n+1,by omega,by go_num,HQ6,by show _;rw [if_neg (by omega)];exact HIN.out⟩
      case measure=>simp [intOf];omega
     have HM:Hid (pre (axisT n) (r.s.data.toList.drop r.pos)=true):=hm
     rw [if_pos hm] at hin';obtain ⟨k,hk⟩:∃ k,Hid ((axisT n).length=k):=⟨_,rfl⟩
     have hkl:r.pos+k≤r.s.size:=by have:=zE1 (k:=r.pos) (by rw [HL.out];exact hp) hm;rw [HL.out,hk.out] at this;exact this
     obtain ⟨ax,hax⟩:∃ ax,Hid ((n:Int)=ax):=⟨_,rfl⟩
     have hVV2:=HVV.out
     simp only [← hin',hk.out,if_neg hn0,hax.out] at hVV2;have HVV:=Lib.hid hVV2
     clear hin hin' hm hVV2
     go_wp2_with fail;rw [zHg n hlt wr]
     go_simp
     go_wp2_with fail;refine (zAw b r wr HQr.out.q (axisT n) hp hs true HM hlen).mono ?_
     rintro e w6 ⟨rfl,h6,hg6⟩;have HQ6:Hid (StepAt w B b { r with pos:=r.pos+k } g S (⟨1,0,[],[]⟩,none,0) w6):=by
      have:=HQr.out.called hB hBw (r':={ r with pos:=r.pos+(axisT n).length }) rfl h6 hg6
      rw [hk.out] at this;exact this
     obtain ⟨_,_,⟨c0,_,_,_⟩,fz⟩:=HQ6.out.s.cells HQ6.out.q ho.out
     have f0:=fz o
     obtain ⟨W6,hW6⟩:∃ W6,Hid (W6=w6.setCell ⟨g,o,none⟩ (.int .i64 n)):=⟨_,rfl⟩
     have HQ5:Hid (StepAt w B b { r with pos:=r.pos+k } g S (⟨ax,0,[],[]⟩,none,0) W6):=by
      show StepAt _ _ _ _ _ _ _ _
      rw [hW6.out,← hax.out];exact HQ6.out.write (⟨n,0,[],[]⟩,none,0) 0 (.int .i64 n) (by decide) rfl rfl rfl o ho.out
     clear h6 fz
     go_wp2_with fail;rw [← hW6.out];clear c0 f0
    rotate_left
    focus
     have hn9':n=9:=by omega
     subst hn9';have hin':=hin.out
     rw [if_neg (by decide)] at hin'
     have hX0:X=0:=hin'.symm
     obtain ⟨k,hk⟩:∃ k:Nat,Hid (0=k):=⟨_,rfl⟩
     obtain ⟨ax,hax⟩:∃ ax:Int,Hid (1=ax):=⟨_,rfl⟩
     have hkl:r.pos+k≤r.s.size:=by rw [← hk.out];exact hp
     have hVV2:=HVV.out
     rw [hX0] at hVV2;simp only [show (axisT 0).length=k from hk.out,if_true,hax.out] at hVV2
     have HVV:=Lib.hid hVV2
     have HQ5:Hid (StepAt w B b { r with pos:=r.pos+k } g S (⟨ax,0,[],[]⟩,none,0) wr):=by
      show StepAt _ _ _ _ _ _ _ _
      rw [← hk.out,← hax.out];exact HQr.out
     clear hin hin' hVV2 hX0
     go_wp2_with fail
    all_goals
     obtain ⟨U,hU⟩:∃ U,Hid (qtest (r.s.data.toList.drop (r.pos+k))=U):=⟨_,rfl⟩
     have hVV:=HVV.out
     rw [hU.out] at hVV
     go_wp2_with fail;refine (zLY b B { r with pos:=r.pos+k } _ HQ5.out.q hB (Nat.le_trans hBw HQ5.out.below.size) hkl hs g S (⟨ax,0,[],[]⟩,none,0) HQ5.out.s HQ5.out.p rfl o ho U hU).mono ?_
     cases U with
     | bad j c =>
      have HV:Hid (V=.bad (k+j) c):=hVV.symm
      clear hVV;rintro e w7 ⟨hb7,rfl,p,h7⟩
      go_wp2_with fail
      go_ret;rw [HV.out];refine ⟨HQ5.out.below.trans hb7,rfl,p,?_⟩
      rw [show r.pos+(k+j)=r.pos+k+j by omega]
      exact h7
     | ok t n =>
      rintro e w7 ⟨hb7,rfl,h7,hs7,hp7⟩;have hw:=zDV (r.s.data.toList.drop (r.pos+k))
      rw [hU.out,List.length_drop,HL.out] at hw;obtain ⟨wlo,whi⟩:=hw
      obtain ⟨q,hq⟩:∃ q,Hid (r.pos+k+n=q):=⟨_,rfl⟩
      have hql:q≤r.s.size:=by have:=hq.out;omega
      have HB7:Hid (Below B w w7):=HQ5.out.below.trans hb7
      have HQ7:Hid (QAt w7 b { r with pos:=q }):=by show QAt _ _ _;rw [← hq.out];exact h7
      have HS7:Hid (StepsOwn w7 B (some ⟨g,0,none⟩) r.c (S++[(⟨ax,t.1,t.2,[]⟩,none,0)])):=hs7
      have HP7:Hid (SPreds w7 B (S++[(⟨ax,t.1,t.2,[]⟩,none,0)])):=hp7
      have hBw7:B≤w7.heap.size:=Nat.le_trans hBw HB7.out.size
      have HA7:Hid (LoopAt w7 B b { r with pos:=q } g S (⟨ax,t.1,t.2,[]⟩,none,0) w7):=⟨HQ7.out,hs7,World.ownsRow_nil _ _ _ _,Below.refl _ _,fun _ _ _ _=>rfl⟩
      obtain ⟨P,hP⟩:∃ P,Hid (qpreds (r.s.data.toList.drop q) []=P):=⟨_,rfl⟩
      have hVP:predsTold (k+n) ax t P=V:=by
       have:=hVV
       simp only at this
       rw [show r.pos+(k+n)=q by have:=hq.out;omega,hP.out] at this
       rw [← this];cases P <;> rfl
      have HVP:=Lib.hid hVP
      clear hVV hVP h7 hs7 hp7 hU wlo whi hb7
      go_wp2_with fail
      go_loopg [] (r.s.size-q) (fun gm wr=>∃ (p:Nat) (ps:List PredD) (A:Option Addr) (c:Nat),q≤p∧p≤r.s.size∧gm=r.s.size-p∧ps.length≤5∧Hid (LoopAt w7 B b { r with pos:=p } g S (⟨ax,t.1,t.2,ps⟩,A,c) wr)∧Hid ((qpreds (r.s.data.toList.drop p) ps).past (p-q)=P))
      case atStart=>exact ⟨q,[],none,0,Nat.le_refl _,hql,rfl,by simp,HA7.out,by show _=_;rw [Nat.sub_self,Told.past_zero,hP.out]⟩
      case round =>
       obtain ⟨p,ps,A,c,hqp,hpl,rfl,hps,HA,hin⟩:=hrel
       rename_i wr0 _
       obtain ⟨_,z1,_⟩:=HA.out.q.all
       have hin':=hin.out
       cases hb:pre [91] (r.s.data.toList.drop p) with
       | false =>
        have HB:Hid (pre [91] (r.s.data.toList.drop p)=false):=hb
        rw [zEK hb] at hin';have HP:Hid (P=.ok ps (p-q)):=by show _=_;rw [← hin'];rfl
        clear hin hin' hb
        go_wp2_with fail;refine (zAw b _ _ HA.out.q [91] hpl hs false HB (by decide)).mono ?_
        rintro e8 w8 ⟨rfl,h8,hg8⟩;have HA8:=HA.out.called hB hBw7 rfl h8 hg8
        clear z1
        go_wp2_with fail
        go_ret;rw [← HVP.out,HP.out];refine ⟨HB7.out.trans HA8.below,rfl,?_,A,c,HA8.s,HA8.fin hBw7 HQ7.out HS7.out HP7.out⟩
        have:=HA8.q
        rw [show r.pos+(k+n+(p-q))=p by have:=hq.out;omega]
        exact this
       | true =>
        have HB:Hid (pre [91] (r.s.data.toList.drop p)=true):=hb
        have hp1:=zBk hb
        rw [HL.out] at hp1
        go_wp2_with fail;refine (zAw b _ _ HA.out.q [91] hpl hs true HB (by decide)).mono ?_
        rintro e8 w8 ⟨rfl,h8,hg8⟩;have HA8:Hid (LoopAt w7 B b { r with pos:=p+1 } g S (⟨ax,t.1,t.2,ps⟩,A,c) w8):=HA.out.called hB hBw7 rfl h8 hg8
        clear h8 z1;obtain ⟨hne,hBg,⟨c0,c1,c2,c3⟩,fz⟩:=HA8.out.s.cells HA8.out.q ho.out
        by_cases h5:5≤ps.length
        ·have HP:Hid (P=.bad (p-q) 70):=by show _=_;rw [← hin',zEJ hb h5];rfl
         have h5':(5:Int)≤ps.length:=by omega
         clear hin hin' hb c0 c1 c2 fz
         go_wp2_with fail;refine (zAt b _ w8 HA8.out.q p 70).mono ?_
         rintro e9 w9 ⟨rfl,h9,hg9⟩;have HA9:=HA8.out.called' hB hBw7 h9 rfl hg9
         clear c3
         go_wp2_with fail
         go_ret;rw [← HVP.out,HP.out];refine ⟨HB7.out.trans HA9.below,rfl,p+1,?_⟩
         have:=HA9.q
         rw [show r.pos+(k+n+(p-q))=p by have:=hq.out;omega]
         exact this
        ·have h5':(ps.length:Int)<5:=by omega
         obtain ⟨U,hU⟩:∃ U,Hid (qpred (r.s.data.toList.drop (p+1))=U):=⟨_,rfl⟩
         have hU1:qpred ((r.s.data.toList.drop p).drop 1)=U:=by rw [List.drop_drop];exact hU.out
         have hw:=zCD (r.s.data.toList.drop (p+1))
         rw [hU.out,List.length_drop,HL.out] at hw;clear c0 c1 c2 fz
         go_wp2_with fail;refine (zLA b _ w8 HA8.out.q hp1 hs U hU).mono ?_
         cases U with
         | bad j d =>
          have HP:Hid (P=.bad (p-q+(1+j)) d):=by show _=_;rw [← hin',zE6 hb h5 hU1];rfl
          rintro e9 w9 ⟨⟨v,rfl,⟨z,rfl⟩,p9,h9⟩,hg9⟩;have HA9:=HA8.out.called' hB hBw7 h9 rfl hg9
          have HA10:=HA9.quiet hBw7 ((Below.refl _ w9).alloc (Nat.le_refl _) (.cells #[.int .i64 z.kind,.int .i64 z.num,.string ⟨z.name.toArray⟩,.string ⟨z.value.toArray⟩] 102))
          clear hin hin' hb hw hU1 c3;unfold predC
          go_wp2_with fail
          go_ret;rw [← HVP.out,HP.out];refine ⟨HB7.out.trans HA10.below,rfl,p9,?_⟩
          have:=HA10.q
          rw [show r.pos+(k+n+(p-q+(1+j)))=p+1+j by have:=hq.out;omega]
          exact this
         | ok z m =>
          obtain ⟨wlo,whi⟩:=hw
          rintro e9 w9 ⟨⟨rfl,h9⟩,hg9⟩;have HA9:Hid (LoopAt w7 B b { r with pos:=p+1+m } g S (⟨ax,t.1,t.2,ps⟩,A,c) w9):=HA8.out.called hB hBw7 rfl h9 hg9
          obtain ⟨W10,hW10⟩:∃ W10,Hid (W10=w9.alloc (.cells #[.int .i64 z.kind,.int .i64 z.num,.string ⟨z.name.toArray⟩,.string ⟨z.value.toArray⟩] 102)):=⟨_,rfl⟩
          have HA10:Hid (LoopAt w7 B b { r with pos:=p+1+m } g S (⟨ax,t.1,t.2,ps⟩,A,c) W10):=by
           show LoopAt _ _ _ _ _ _ _ _
           rw [hW10.out];exact HA9.out.quiet hBw7 ((Below.refl _ w9).alloc (Nat.le_refl _) _)
          have y:∀ (j:Nat) (u:Value),(#[.int .i64 z.kind,.int .i64 z.num,.string ⟨z.name.toArray⟩,.string ⟨z.value.toArray⟩]:Array Value)[j]? = some u→W10.cell? ⟨w9.heap.size,j,none⟩=some u:=fun j u hu=>by rw [hW10.out,World.cell?_alloc_at _ _ _ _ rfl];exact hu
          have HX10:Hid (BoxP W10 w9.heap.size z):=⟨y 0 _ rfl,y 1 _ rfl,y 2 _ rfl,y 3 _ rfl⟩
          have hbx:w9.heap.size≠b:=by have:=HA9.out.q.lt;omega
          have hgx:w9.heap.size≠g:=by have:=HA9.out.s.last.2.1;omega
          have hzx:w9.heap.size<W10.heap.size:=by rw [hW10.out];simp
          clear y c3;have hpm:p+1+m≤r.s.size:=by omega
          have hd2:(r.s.data.toList.drop p).drop (1+m)=r.s.data.toList.drop (p+1+m):=by rw [List.drop_drop,show p+(1+m)=p+1+m by omega]
          unfold predC
          go_wp2_with fail;rw [← hW10.out];cases hc:pre [93] (r.s.data.toList.drop (p+1+m)) with
          | false =>
           have HC:Hid (pre [93] (r.s.data.toList.drop (p+1+m))=false):=hc
           have HP:Hid (P=.bad (p-q+(1+m)) 70):=by show _=_;rw [← hin',zEL hb h5 hU1 (by rw [hd2];exact hc)];rfl
           clear hin hin' hb hU1 hd2 hc;refine (zBN b _ W10 HA10.out.q [93] hpm hs false HC (by decide)).mono ?_
           rintro e11 w11 ⟨rfl,h11,hg11⟩;have HA11:=HA10.out.called' hB hBw7 h11 rfl hg11
           go_wp2_with fail
           go_ret;rw [← HVP.out,HP.out];refine ⟨HB7.out.trans HA11.below,rfl,p+1+m,?_⟩
           have:=HA11.q
           rw [show r.pos+(k+n+(p-q+(1+m)))=p+1+m by have:=hq.out;omega]
           exact this
          | true =>
           have HC:Hid (pre [93] (r.s.data.toList.drop (p+1+m))=true):=hc
           have hc1:=zBk hc
           rw [HL.out] at hc1;have HIN:Hid ((qpreds (r.s.data.toList.drop (p+1+m+1)) (ps++[z])).past (p+1+m+1-q)=P):=by
            show _=_
            rw [← hin',zEM hb h5 hU1 (by rw [hd2];exact hc),Told.past_past,List.drop_drop,show p+(m+2)=p+1+m+1 by omega,show p-q+(m+2)=p+1+m+1-q by omega]
           clear hin hin' hb hU1 hd2 hc;refine (zBN b _ W10 HA10.out.q [93] hpm hs true HC (by decide)).mono ?_
           rintro e11 W1 ⟨rfl,h11,hg11⟩;have HA11:Hid (LoopAt w7 B b { r with pos:=p+1+m+1 } g S (⟨ax,t.1,t.2,ps⟩,A,c) W1):=HA10.out.called hB hBw7 rfl h11 hg11
           have HS:Hid (BoxP W1.drew w9.heap.size z):=BoxP.keep (w:=W10) HX10.out (fun j=>by
            unfold World.cell?;rw [show W1.drew.heap=W1.heap from rfl,hg11.block w9.heap.size hzx (by intro e;injection e with e;exact hbx e)])
           have hzx1:w9.heap.size<W1.heap.size:=Nat.lt_of_lt_of_le hzx hg11.size
           obtain ⟨_,_,⟨_,_,_,z3⟩,fz3⟩:=HA11.out.s.cells HA11.out.q ho.out
           have hf3:=fz3 (o+3)
           have H2:Hid (W1.ownsRow w7.heap.size 102 4 (.slice A ps.length c) ps.length (ps.flatMap cellsP)):=HA11.out.p
           have hzB:w7.heap.size≤W1.drew.heap.size:=by
            have h1:=HA11.out.below.size
            exact h1
           have hown2:∀ k,(Value.slice A ps.length c).ownBlock=some k→k=w9.heap.size→False:=fun k hk e=>by
            have h1:=(zBR HA9.out.p k hk).2.1
            omega
           have HOWN2:=Lib.hid hown2
           clear h11
           go_wp2_with fail;refine wp_region_held_drew (S:=fun w'=>w'.cell? ⟨w9.heap.size,0,none⟩=some (.int .i64 z.kind)∧w'.cell? ⟨w9.heap.size,1,none⟩=some (.int .i64 z.num)∧w'.cell? ⟨w9.heap.size,2,none⟩=some (.string ⟨z.name.toArray⟩)∧w'.cell? ⟨w9.heap.size,3,none⟩=some (.string ⟨z.value.toArray⟩)) (by kernel_rfl) HS.out (fun hHeld=>?_)
           refine tkv 0 (h:=tkv 1 (h:=tkv 2 (h:=tkv 3 (h:=?_))))
           refine tkv 5 (h:=?_)
           have z0e:W1.drew.cell? ⟨g,o+3,none⟩=some (.slice A ps.length c):=z3
           have HS2:Hid (BoxP (W1.drew.alloc (.cells #[.int .i64 z.kind,.int .i64 z.num,.string ⟨z.name.toArray⟩,.string ⟨z.value.toArray⟩] 102)) w9.heap.size z):=BoxP.keep HS.out (fun j=>World.cell?_alloc_lt _ _ _ hzx1)
           have hgd:g<W1.heap.size:=HA11.out.s.last.2.1
           have z0f:(W1.drew.alloc (.cells #[.int .i64 z.kind,.int .i64 z.num,.string ⟨z.name.toArray⟩,.string ⟨z.value.toArray⟩] 102)).cell? ⟨g,o+3,none⟩=some (.slice A ps.length c):=(World.cell?_alloc_lt _ _ _ hgd).trans z0e
           refine wpAnyH_ready (rs:=[4,6]) (by kernel_rfl) (by simp) ?_
           refine AllReadyH.cons (o:=⟨_,_,_,_,_,_⟩) rfl (fun K hK=>?_) (AllReadyH.cons (o:=⟨_,_,_,_,_,_⟩) rfl (fun K hK=>?_) AllReadyH.nil)
           focus
            go_simp
            refine hK.out _ _ (HS.out) (fun hHeld=>?_)
            clear hK K
            try go_frame
            refine rdy 6 (fun K hK=>?_)
           rotate_left
           focus
            go_simp
            refine hK.out _ _ (HS2.out) (fun hHeld=>?_)
            clear hK K
            try go_frame
            refine rdy 4 (fun K hK=>?_)
           all_goals
            go_simp
            refine hK.out _ _ (HS2.out) (fun hHeld=>?_)
            clear hK K
            try go_frame
            refine rdy 7 (fun K hK=>?_)
            refine zFK (.tmp 84) (.tmp 86) 43 rfl w7.heap.size 102 (.agg #[.int .i64 0,.int .i64 0,.string ByteArray.empty,.string ByteArray.empty]) 4 48 Tryz.underlying43 zHn rfl (by decide) _ ps.length _ (cellsP z) rfl H2.out hzB _ rfl rfl (zCr _) (zEn _) (by omega) (by decide) ?_
            intro a4 c4 w4 hown4 hb4 hz4 hg4;have HD:Hid (LoopAt w7 B b { r with pos:=p+1+m+1 } g S (⟨ax,t.1,t.2,ps⟩,A,c) (W1.drew.alloc (.cells #[.int .i64 z.kind,.int .i64 z.num,.string ⟨z.name.toArray⟩,.string ⟨z.value.toArray⟩] 102))) :=
             HA11.out.quiet hBw7 (((Below.refl _ W1).drew).alloc (Nat.le_refl _) _)
            have hownb:some b≠(Value.slice A ps.length c).ownBlock:=fun hg=>by
             obtain ⟨_,_,cur,hc⟩:=zBR HD.out.p b hg.symm
             have h1:=HD.out.q
             unfold QAt at h1;rw [hc] at h1
             injection h1 with h1
             injection h1 with _ h1
             exact absurd h1 (by decide)
            have hz4':W1.heap.size<w4.heap.size:=hz4
            have HS4:Hid (BoxP w4 w9.heap.size z):=BoxP.keep HS2.out (fun j=>World.grownBy.cell_far hg4 ⟨w9.heap.size,j,none⟩ (by show w9.heap.size<_;simp;omega) (fun e=>HOWN2.out _ e.symm rfl))
            have HQ4:Hid (QAt w4 b { r with pos:=p+1+m+1 }):=(hg4.block b HD.out.q.lt hownb).trans HD.out.q
            have HSt4:Hid (StepsOwn w4 B (some ⟨g,0,none⟩) r.c (S++[(⟨ax,t.1,t.2,ps⟩,A,c)])):=zBo HD.out.s HD.out.p (by decide) hg4
            obtain ⟨_,_,⟨_,_,_,k3⟩,kfz⟩:=HSt4.out.cells HQ4.out ho.out
            have kf3:=kfz (o+3)
            refine hK.out _ _ (HS4.out) (fun hHeld=>?_)
            clear hK K
            try go_frame
            refine tkv 8 (h:=tkv 9 (h:=?_))
            refine rdy 10 (fun K hK=>?_)
            go_simp
            have HS5:Hid (BoxP (w4.setCell ⟨g,o+3,none⟩ (.slice a4 (ps.length+1) c4)) w9.heap.size z):=BoxP.keep HS4.out (fun j=>World.grownBy.cell_far (Lib.grownBy_setCell w4 g (o+3) _) ⟨w9.heap.size,j,none⟩ (by show w9.heap.size<_;omega) (fun e=>by injection e with e;exact hgx e))
            refine hK.out _ _ (HS5.out) (fun hHeld=>?_)
            clear hK K
            try go_frame
            refine wpAnyH_done (by kernel_rfl) ?_ _
            clear hHeld
            go_wp2_with fail
            go_roundg (r.s.size-(p+1+m+1))
            case measure=>omega
            case rel =>
             have hfin:PredsOwn w4 w7.heap.size a4 c4 (ps++[z]):=by
              unfold PredsOwn;rw [List.length_append,List.flatMap_append]
              simpa using hown4
             have hgg:=Lib.grownBy_setCell w4 g (o+3) (.slice a4 (ps.length+1) c4)
             have hst:=HSt4.out.set (y:=(⟨ax,t.1,t.2,ps++[z]⟩,a4,c4)) 3 (.slice a4 (ps.length+1) c4) (by decide) (by simp [cellsS])
             rw [ho.out] at hst;refine ⟨p+1+m+1,ps++[z],a4,c4,by omega,hc1,rfl,by simp;omega,⟨HQ4.out.other hgg hne,hst,zBo hfin HSt4.out (by decide) hgg,?_,fun k hk h1 h2=>?_⟩,HIN⟩
             ·exact ((HA11.out.below.drew).trans (hb4.mono hBw7)).setCell hBg _
             ·refine (hgg.block k (Nat.lt_of_lt_of_le hk (by have:=HD.out.below.size;have:=hg4.size;omega)) (by intro e;injection e with e;exact h2 e)).trans ?_
              exact ((hb4.block k hk)).trans (HA11.out.same k hk h1 h2)
end
section
/-! ## What was read may be -/
theorem zEH {l s:List UInt8} {n:Nat} (h:qname l=.ok s n):nameL s=true∧s=l.take n∧n=partN l:=by
 unfold qname at h
 split at h
 ·cases h
 ·rename_i hn
  injection h with h1 h2
  subst h1;subst h2;exact ⟨by simpa using hn,rfl,rfl⟩
theorem zDX {l s:List UInt8} {n:Nat} (h:qvalue l=.ok s n):0≤countL s:=by
 unfold qvalue at h
 split at h
 ·cases h
 simp only at h
 split at h
 ·cases h
 split at h
 ·cases h
 ·rename_i hu
  injection h with h1 _
  subst h1;have hu0:(undoL true ((l.drop 1).takeWhile (· != 34))).2.2=0:=Decidable.of_not_not hu
  obtain ⟨cs,hcs⟩:=zFD true _ _ (Nat.le_refl _) hu0
  unfold countL;rw [hcs];simp
theorem zHu:∀ (d:List UInt8) (n:Int),(∀ b∈d,digB b=true)→1≤n→1≤numQ n d
 | [],n,_,h=>h
 | b :: d,n,hd,h=>by
  have hb:=hd b (by simp)
  unfold digB at hb;have:=of_decide_eq_true hb
  exact zHu d _ (fun x hx=>hd x (by simp [hx])) (by omega)
theorem zFf {l:List UInt8} {v:Int} {n:Nat} (h:qnumber l=.ok v n):1≤v∧v≤9999:=by
 unfold qnumber at h;simp only at h
 split at h
 ·cases h
 ·rename_i hh
  injection h with h1 _
  subst h1;refine ⟨?_,by omega⟩
  have hall:∀ b∈l.takeWhile digB,digB b=true:=fun b hb=>by
   have:=List.all_takeWhile (l:=l) (p:=digB)
   exact List.all_eq_true.1 this b hb
  cases hd:l.takeWhile digB with
  | nil=>exact absurd (.inl hd) hh
  | cons b d =>
   rw [hd] at hall;have hb:=hall b (by simp)
   unfold digB at hb;have hb:=of_decide_eq_true hb
   have hl:∃ t,l=b :: t:=by
    cases l with
    | nil=>cases hd
    | cons x t =>
     rw [List.takeWhile_cons] at hd
     split at hd
     ·injection hd with h1 _;exact ⟨t,by rw [h1]⟩
     ·cases hd
   obtain ⟨t,ht⟩:=hl
   have hb48:b.toNat≠48:=fun e=>hh (.inr (.inl (by
    rw [ht];have:b=48:=UInt8.toNat.inj e
    rw [this];exact zA4 [48] t)))
   exact zHu d _ (fun x hx=>hall x (by simp [hx])) (by omega)
theorem zHK {l:List UInt8} {p:PredD} {n:Nat} (h:qattr l=.ok p n):predB p=true:=by
 unfold qattr at h
 split at h
 ·cases h
 rename_i s m hn
 obtain ⟨h1,_⟩:=zEH hn
 split at h
 ·injection h with h _
  subst h;unfold predB;simp [h1]
 ·split at h
  ·cases h
  rename_i v k hv
  have h2:=zDX hv
  injection h with h _
  subst h;unfold predB;simp [h1,h2]
theorem zDL {α:Type} {x:Told α} {k n:Nat} {v:α} (h:x.past k=.ok v n):∃ m,x=.ok v m∧n=k+m:=by
 cases x with
 | bad j e=>cases h
 | ok y m=>injection h with h1 h2;exact ⟨m,by rw [h1],h2.symm⟩
theorem zHL {l:List UInt8} {p:PredD} {n:Nat} (h:qpred l=.ok p n):predB p=true:=by
 unfold qpred at h
 split at h
 ·obtain ⟨m,h1,_⟩:=zDL h
  exact zHK h1
 split at h
 ·injection h with h _;subst h;rfl
 split at h
 ·split at h
  ·cases h
  split at h
  ·cases h
  rename_i v k hv
  have h2:=zDX hv
  injection h with h _
  subst h;unfold predB;simp [h2]
 ·split at h
  ·cases h
  rename_i v k hv
  obtain ⟨h1,h2⟩:=zFf hv
  injection h with h _
  subst h;unfold predB;simp [h1,h2]
theorem zC2:∀ (f:Nat) (l:List UInt8) (ps:List PredD) (qs:List PredD) (n:Nat),qpredsF f l ps=.ok qs n→(∀ p∈ps,predB p=true)→ps.length≤5→(∀ p∈qs,predB p=true)∧qs.length≤5
 | 0,_,_,_,_,h,_,_=>by cases h
 | f+1,l,ps,qs,n,h,hp,hl=>by
  rw [qpredsF] at h
  split at h
  ·injection h with h _;subst h;exact ⟨hp,hl⟩
  split at h
  ·cases h
  split at h
  ·cases h
  rename_i p k hq
  split at h
  ·cases h
  obtain ⟨m,h1,_⟩:=zDL h
  refine zC2 f _ _ _ _ h1 (fun x hx=>?_) (by simp;omega)
  rcases List.mem_append.1 hx with hx | hx
  ·exact hp x hx
  ·simp at hx;subst hx;exact zHL hq
theorem zHN {l:List UInt8} {t:Int × List UInt8} {n:Nat} (h:qtest l=.ok t n):1≤t.1∧t.1≤4∧(if t.1=1 then nameL t.2=true else t.2=[]):=by
 unfold qtest at h
 split at h
 ·injection h with h _;subst h;exact ⟨by decide,by decide,rfl⟩
 split at h
 ·injection h with h _;subst h;exact ⟨by decide,by decide,rfl⟩
 split at h
 ·injection h with h _;subst h;exact ⟨by decide,by decide,rfl⟩
 split at h
 ·cases h
 rename_i s m hn
 injection h with h _
 subst h;exact ⟨Int.le_refl 1,by show (1:Int)≤4;decide,(zEH hn).1⟩
theorem zHM {l:List UInt8} {s:StepD} {n:Nat} (h:qstep l=.ok s n):stepB s=true:=by
 unfold qstep at h
 split at h
 ·injection h with h _;subst h;rfl
 split at h
 ·injection h with h _;subst h;rfl
 simp only at h
 split at h
 ·cases h
 rename_i t m ht
 split at h
 ·cases h
 rename_i ps k hps
 injection h with h _
 subst h;obtain ⟨t1,t4,hn⟩:=zHN ht
 obtain ⟨p1,p2⟩:=zC2 _ _ _ _ _ hps (fun _ h=>by cases h) (by simp)
 have hx:1≤(if axisN l=0 then (1:Int) else (axisN l:Int))∧(if axisN l=0 then (1:Int) else (axisN l:Int))≤8:=by
  rcases zDq 8 1 l with h | ⟨_,h2,h3⟩
  ·have h':axisN l=0:=h
   rw [h'];simp
  ·have h2':1≤axisN l:=h2
   have h3':axisN l<1+8:=h3
   rw [if_neg (by omega)];omega
 unfold stepB;simp only [Bool.and_eq_true,decide_eq_true_eq,List.all_eq_true];refine ⟨⟨⟨⟨hx,t1,t4⟩,?_⟩,p2⟩,p1⟩
 split at hn
 ·rename_i h;rw [if_pos h];exact hn
 ·rename_i h;rw [if_neg h];simpa using hn
theorem zE5 {l:List UInt8} {ls ls':List StepD} {n:Nat} (h:qone l ls=.ok ls' n):∃ (ms:List StepD) (s:StepD) (k m:Nat),ls'=ms++[s]∧ms.length<20∧qstep (l.drop k)=.ok s m∧(ms=ls∨ms=ls++[⟨3,4,[],[]⟩]):=by
 unfold qone at h
 split at h
 ·cases h
 simp only at h
 by_cases h2:pre [47] (l.drop 1)=true
 ·simp only [h2,true_and,if_true] at h
  split at h
  ·cases h
  split at h
  ·cases h
  rename_i h21
  cases hs:qstep (l.drop 2) with
  | bad j e=>rw [hs] at h;cases h
  | ok s m =>
   rw [hs] at h
   injection h with h1 _
   exact ⟨_,s,2,m,h1.symm,by omega,hs,.inr rfl⟩
 ·have h3:pre [47] (l.drop 1)=false:=by simpa using h2
  simp only [h3,Bool.false_eq_true,false_and,if_false] at h
  split at h
  ·cases h
  rename_i h21
  cases hs:qstep (l.drop 1) with
  | bad j e=>rw [hs] at h;cases h
  | ok s m =>
   rw [hs] at h
   injection h with h1 _
   exact ⟨_,s,1,m,h1.symm,by omega,hs,.inl rfl⟩
theorem zIl {l:List UInt8} {ls ls':List StepD} {n:Nat} (h:qone l ls=.ok ls' n) (hr:∀ s∈ls,stepB s=true):(∀ s∈ls',stepB s=true)∧1≤ls'.length∧ls'.length≤20:=by
 obtain ⟨ms,s,k,m,rfl,hl,hs,hm⟩:=zE5 h
 refine ⟨fun x hx=>?_,by simp,by simp only [List.length_append,List.length_singleton];omega⟩
 rcases List.mem_append.1 hx with hx | hx
 ·rcases hm with rfl | rfl
  ·exact hr x hx
  ·rcases List.mem_append.1 hx with hx | hx
   ·exact hr x hx
   ·simp at hx;subst hx;rfl
 ·simp at hx;subst hx;exact zHM hs
theorem zEG:∀ (f:Nat) (l:List UInt8) (ls ls':List StepD) (n:Nat),qallF f l ls=.ok ls' n→(∀ s∈ls,stepB s=true)→(∀ s∈ls',stepB s=true)∧1≤ls'.length∧ls'.length≤20
 | 0,_,_,_,_,h,_=>by cases h
 | f+1,l,ls,ls',n,h,hr=>by
  rw [qallF] at h;cases hq:qone l ls with
  | bad k e=>rw [hq] at h;cases h
  | ok ms k =>
   rw [hq] at h;simp only at h
   have h1:=zIl hq hr
   split at h
   ·injection h with h _;subst h;exact h1
   ·obtain ⟨m,h2,_⟩:=zDL h
    exact zEG f _ _ _ _ h2 h1.1
theorem zEN {l:List UInt8} (h:(queryL l).2.2=0):rightL (queryL l).1=true∧(queryL l).2.1=0:=by
 unfold queryL at h ⊢
 split at h
 ·cases h
 rename_i hl
 rw [if_neg hl];cases hq:qall l [] with
 | bad k e =>
  rw [hq] at h;have hw:=zBS (l.length+1) l []
  have:qallF (l.length+1) l []=.bad k e:=hq
  rw [this] at hw;exact absurd h hw.2
 | ok ls n =>
  obtain ⟨h1,h2,h3⟩:=zEG _ _ _ _ _ hq (fun _ h=>by cases h)
  refine ⟨?_,rfl⟩
  unfold rightL;simp only [Bool.and_eq_true,decide_eq_true_eq,List.all_eq_true];exact ⟨h1,h2,h3⟩
end
section
structure Good (n:List UInt8):Prop where
 dot:pre [46] n=false
 slash:pre [47] n=false
 axis:axisN n=0
theorem zLC {m:List UInt8} (h:pre [47] m=false) (ls:List StepD):qone (47 :: m) ls=if 20≤ls.length then .bad 0 70 else match qstep m with
   | .bad j e=>.bad (1+j) e
   | .ok s k=>.ok (ls++[s]) (1+k):=by
 unfold qone;rw [if_neg (by rw [show pre [47] (47 :: m)=true from zA4 [47] _];decide)]
 simp only
 rw [show (47 :: m).drop 1=m from rfl,h]
 simp only [Bool.false_eq_true,false_and,if_false];rw [show (47 :: m).drop 1=m from rfl]
 cases qstep m <;> rfl
theorem zLD (m:List UInt8) (ls:List StepD):qone (47 :: 47 :: m) ls=if 20≤ls.length then .bad 0 70 else if 20≤ls.length+1 then .bad 0 70 else match qstep m with
   | .bad j e=>.bad (2+j) e
   | .ok s k=>.ok (ls++[⟨3,4,[],[]⟩]++[s]) (2+k):=by
 unfold qone;rw [if_neg (by rw [show pre [47] (47 :: 47 :: m)=true from zA4 [47] _];decide)]
 simp only
 rw [show (47 :: 47 :: m).drop 1=47 :: m from rfl,show pre [47] (47 :: m)=true from zA4 [47] _]
 simp only [true_and,if_true,List.length_append,List.length_singleton];rw [show (47 :: 47 :: m).drop 2=m from rfl]
 cases qstep m <;> rfl
def likeT (x y:Told (List StepD)):Prop:=(∃ ls n m,x=.ok ls n∧y=.ok ls m)∨((∃ k e,x=.bad k e) ∧ ∃ k e,y=.bad k e)
def wordA (k:Nat):List UInt8:=(axisT k).take ((axisT k).length-2)
def colB:List UInt8→Bool
 | a :: b :: r=>(a == 58 && b == 58) || colB (b :: r)
 | _=>false
theorem zLE {l:List UInt8} (h:(queryL l).2.2=0):l.length≤200 ∧ ∃ n,qall l []=.ok (queryL l).1 n:=by
 unfold queryL at h ⊢
 split at h
 ·cases h
 rename_i hl
 rw [if_neg hl];refine ⟨by omega,?_⟩
 cases hq:qall l [] with
 | bad k e =>
  rw [hq] at h;have hw:=zBS (l.length+1) l []
  have:qallF (l.length+1) l []=.bad k e:=hq
  rw [this] at hw;exact absurd h hw.2
 | ok ls n=>exact ⟨n,rfl⟩
def shortP (n x y:List UInt8):Prop :=
 ((queryL x).2.2=0→(queryL y).2.2=0→(queryL x).1=(queryL y).1) ∧
 (y.length≤200→pre [46] n=false→pre [47] n=false→colB n=false→((queryL x).2.2=0 ↔ (queryL y).2.2=0))
def longA:List UInt8:=[47]++axisT 3++tNode
theorem likeT.trans {x y z:Told (List StepD)} (h:likeT x y) (h':likeT y z):likeT x z:=by
 rcases h with ⟨ls,n,m,h1,h2⟩ | ⟨h1,k,e,h2⟩
 ·rcases h' with ⟨ms,a,b,h3,h4⟩ | ⟨⟨k,e,h3⟩,_⟩
  ·rw [h2] at h3;injection h3 with h3 _;subst h3;exact .inl ⟨_,_,_,h1,h4⟩
  ·rw [h2] at h3;cases h3
 ·rcases h' with ⟨ms,a,b,h3,_⟩ | ⟨_,h4⟩
  ·rw [h2] at h3;cases h3
  ·exact .inr ⟨h1,h4⟩
end
end Go.Proofs.YtcombcoilpmnkaaGreat

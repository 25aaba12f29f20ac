/-
  Texts of this claim, joined (by a program of the claim's author): PqA, PqB, PqC, WStep, WMap.
-/
import Derived.Test.YtcombcoilpmnkaaGreatWF1
import Derived.Test.YtcombcoilpmnkaaGreatWF15
import Derived.Laws.StructEq
import Derived.Test.YtcombcoilpmnkaaGreatWF13
import Derived.Test.YtcombcoilpmnkaaGreatWF7
import Derived.Test.YtcombcoilpmnkaaGreatWF4
namespace Go.Proofs.YtcombcoilpmnkaaGreat
set_option maxRecDepth 100000
set_option maxHeartbeats 16000000
section
open Go.RowKit
def oneTold (k:Nat) (ls:List StepD):Told StepD→Told (List StepD)
 | .bad j e=>.bad (k+j) e
 | .ok s n=>.ok (ls++[s]) (k+n)
theorem zJ6 {l:List UInt8} (h:pre [47] l=false) (ls:List StepD):qone l ls=.bad 0 70:=by unfold qone;rw [if_pos h]
theorem zGj {l:List UInt8} (h:pre [47] l=true) (h2:pre [47] (l.drop 1)=false) (ls:List StepD):qone l ls=if 20≤ls.length then .bad 0 70 else oneTold 1 ls (qstep (l.drop 1)):=by
 obtain ⟨m,rfl⟩:=zDk h
 rw [zLC (m:=m) h2];show (if 20≤ls.length then _ else _)=(if 20≤ls.length then _ else oneTold 1 ls (qstep m))
 cases qstep m <;> rfl
theorem zGk {l:List UInt8} (h:pre [47] l=true) (h2:pre [47] (l.drop 1)=true) (ls:List StepD):qone l ls=if 20≤ls.length then .bad 0 70 else if 20≤ls.length+1 then .bad 0 70 else oneTold 2 (ls++[⟨3,4,[],[]⟩]) (qstep (l.drop 2)):=by
 obtain ⟨m,rfl⟩:=zDk h
 obtain ⟨m,rfl⟩:=zDk (l:=m) h2
 rw [zLD];show (if 20≤ls.length then _ else if 20≤ls.length+1 then _ else _)=(if 20≤ls.length then _ else if 20≤ls.length+1 then _ else oneTold 2 _ (qstep m))
 cases qstep m <;> rfl
structure RowAt (w0:World) (B b:Nat) (s:ByteArray) (p:Nat) (S:List QSlot) (w:World) (A:Option Addr) (c:Nat) (bd cd:Int):Prop where
 q:QAt w b ⟨s,p,A,S.length,c,bd,cd⟩
 s:StepsOwn w B A c S
 p:SPreds w B S
 below:Below B w0 w
theorem RowAt.called {w0 w w':World} {B b:Nat} {s:ByteArray} {p p':Nat} {S:List QSlot} {A:Option Addr} {c:Nat} {bd cd:Int} (h:RowAt w0 B b s p S w A c bd cd) (hB:B≤b) (hBw:B≤w0.heap.size) (h2:QAt w' b ⟨s,p',A,S.length,c,bd,cd⟩) (hg:w.grownBy w' (some b)):RowAt w0 B b s p' S w' A c bd cd :=
 ⟨h2,h.s.grown h.q hg,h.p.grown h.q hg,h.below.trans (zAh hg hB (Nat.le_trans hBw h.below.size))⟩
def AllDone (w:World) (B b:Nat) (s:ByteArray) (V:Told (List StepD)) (e:Ending) (w':World):Prop :=
 Below B w w'∧match V with
 | .ok ls _=>e=.returned (.bool true) ∧ ∃ p S A c bd cd,QAt w' b ⟨s,p,A,S.length,c,bd,cd⟩∧StepsOwn w' B A c S∧SPreds w' B S∧S.map (·.1)=ls
 | .bad k c=>e=.returned (.bool false) ∧ ∃ r:QRdr,QAt w' b r∧r.bad=((k:Nat):Int)∧r.code=c
theorem zLs (b B:Nat) (s:ByteArray) (w:World) (h:QAt w b ⟨s,0,none,0,0,0,0⟩) (hB:B≤b) (hBw:B≤w.heap.size) (hs:s.size≤1000000000) (V:Told (List StepD)) (hV:Hid (qall s.data.toList []=V)) :
  Calls Tryz.prog 65 #[.pointer (some ⟨b,0,none⟩)] w (AllDone w B b s V):=by
 have HL:=Lib.hid (zAH s)
 have HR0:Hid (RowAt w B b s 0 [] w none 0 0 0):=⟨h,World.ownsRow_nil _ _ _ _,(fun _ h=>by cases h),Below.refl _ _⟩
 clear h
 go_enter Tryz.func65,Tryz.ntmps65
 go_wp2_with fail
 go_step3
 go_wp2_with fail
 go_step3
 go_wp2_with fail
 go_loopg [] s.size (fun gm wr=>∃ (p:Nat) (S:List QSlot) (ls:List StepD) (A:Option Addr) (c:Nat) (bd cd:Int),p≤s.size∧gm=s.size-p∧Hid (RowAt w B b s p S wr A c bd cd)∧Hid (S.map (·.1)=ls)∧Hid ((qall (s.data.toList.drop p) ls).past p=V))
 case atStart=>exact ⟨0,[],[],none,0,0,0,Nat.zero_le _,rfl,HR0.out,rfl,by show _=_;rw [List.drop_zero,Told.past_zero];exact hV.out⟩
 case round =>
  obtain ⟨p,S,ls,A,c,bd,cd,hps,rfl,HR,hls,hin⟩:=hrel
  obtain ⟨_,z1,_⟩:=HR.out.q.all
  cases hm:pre [47] (s.data.toList.drop p) with
  | false =>
   have HM:Hid (pre [47] (s.data.toList.drop p)=false):=hm
   have HV:Hid (V=.bad p 70):=by
    show _=_
    rw [← hin.out,zBF (zJ6 hm ls)];rfl
   clear hm
   go_wp2_with fail;refine (zBN b _ wr HR.out.q [47] hps hs false HM (by decide)).mono ?_
   rintro e2 w2 ⟨rfl,h2,hg2⟩;have hb2:=HR.out.below.trans (zAh hg2 hB (Nat.le_trans hBw HR.out.below.size))
   clear z1
   go_wp2_with fail
   try rw [Exit.noGoto_ret]
   go_ret;rw [HV.out];exact ⟨hb2,rfl,_,h2,rfl,rfl⟩
  | true =>
   have HM:Hid (pre [47] (s.data.toList.drop p)=true):=hm
   have hp1:=zBk hm
   rw [HL.out] at hp1;clear hm
   go_wp2_with fail;refine (zBN b _ wr HR.out.q [47] hps hs true HM (by decide)).mono ?_
   rintro e2 w2 ⟨rfl,h2,hg2⟩;have HR2:Hid (RowAt w B b s (p+1) S w2 A c bd cd):=HR.out.called hB hBw h2 hg2
   clear h2 z1
   go_wp2_with fail;cases hm:pre [47] (s.data.toList.drop (p+1)) with
   | false =>
    have HM2:Hid (pre [47] (s.data.toList.drop (p+1))=false):=hm
    have HO0:=zGj HM.out (by rw [List.drop_drop];exact hm) ls
    rw [List.drop_drop] at HO0;obtain ⟨S1,hS1⟩:∃ S1,Hid (S=S1):=⟨_,rfl⟩
    obtain ⟨P1,hP1e⟩:∃ P1,Hid (p+1=P1):=⟨_,rfl⟩
    rw [← hls.out,hS1.out,hP1e.out] at HO0;have HO2:qone (s.data.toList.drop p) ls=if 20≤(S1.map (·.1)).length then .bad 0 70 else oneTold (P1-p) (S1.map (·.1)) (qstep (s.data.toList.drop P1)):=by
     rw [← hls.out,hS1.out,HO0,show P1-p=1 by have:=hP1e.out;omega]
    have HOn:=Lib.hid HO2
    have hP1:P1≤s.size:=by have:=hP1e.out;omega
    have hpP:p<P1:=by have:=hP1e.out;omega
    clear hm HO0 HO2;refine (zAw b _ w2 HR2.out.q [47] hp1 hs false HM2 (by decide)).mono ?_
    rintro e3 w3 ⟨rfl,h3,hg3⟩;have HR1:Hid (RowAt w B b s P1 S1 w3 A c bd cd):=by
     show RowAt _ _ _ _ _ _ _ _ _ _ _
     rw [← hP1e.out,← hS1.out];exact HR2.out.called hB hBw h3 hg3
    clear h3;obtain ⟨_,_,z2,_⟩:=HR1.out.q.all
    go_wp2_with fail;refine (zG2 b B _ _ HR1.out.q hB (Nat.le_trans hBw HR1.out.below.size) S1 rfl HR1.out.s HR1.out.p ⟨0,0,[],[]⟩ rfl p).mono ?_
    rintro e5 w5 ⟨hb5,h5⟩;clear z2;rcases h5 with ⟨h20,rfl,hq5⟩ | ⟨h20,rfl,A2,c2,hq5,hs5,hp5⟩
    ·have HV:Hid (V=.bad p 70):=by
      show _=_
      have hq20:qone (s.data.toList.drop p) ls=.bad 0 70:=by rw [HOn.out,if_pos (show 20≤(S1.map (·.1)).length by rw [List.length_map];exact h20)]
      rw [← hin.out,zBF hq20];rfl
     go_wp2_with fail
     try rw [Exit.noGoto_ret]
     go_ret;rw [HV.out];exact ⟨HR1.out.below.trans hb5,rfl,_,hq5,rfl,rfl⟩
    ·have HO1:Hid (qone (s.data.toList.drop p) ls=oneTold (P1-p) (S1.map (·.1)) (qstep (s.data.toList.drop P1))):=by
      show _=_
      rw [HOn.out,if_neg (show ¬ 20≤(S1.map (·.1)).length by rw [List.length_map];omega)]
     obtain ⟨g,hA2⟩:∃ g,A2=some ⟨g,0,none⟩:=by
      obtain ⟨g,hg,_⟩:=zBn cellsS zAj hs5 (by simp)
      exact ⟨g,hg⟩
     subst hA2;obtain ⟨o,ho⟩:∃ o,Hid (S1.length * 4=o):=⟨_,rfl⟩
     have HQ5:=Lib.hid hq5
     have HS5:=Lib.hid hs5
     have HP5:=Lib.hid hp5
     have hb6:=Lib.hid (HR1.out.below.trans hb5)
     obtain ⟨_,_,z2,_⟩:=hq5.all
     have l0:(0:Int)≤(S1.length:Int):=by omega
     have l1:(S1.length:Int)<((S1.length+1:Nat):Int):=by omega
     have l2:S1.length<S1.length+1:=by omega
     obtain ⟨U,hU⟩:∃ U,Hid (qstep (s.data.toList.drop P1)=U):=⟨_,rfl⟩
     have hw:=zBT (s.data.toList.drop P1)
     rw [hU.out,List.length_drop,HL.out] at hw;clear hq5 hs5 hp5 hb5
     go_wp2_with fail;rw [ho.out];refine (zH4 b B _ w5 HQ5.out hB (Nat.le_trans hBw hb6.out.size) hP1 hs g S1 HS5.out HP5.out o ho U hU).mono ?_
     rw [hU.out] at HO1;cases U with
     | bad j d =>
      have HV:Hid (V=.bad (p+(P1-p+j)) d):=by
       show _=_
       rw [← hin.out,zBF HO1.out];rfl
      rintro e7 w7 ⟨hb7,rfl,p7,h7⟩;clear z2
      go_wp2_with fail
      try rw [Exit.noGoto_ret]
      go_ret;rw [HV.out];refine ⟨hb6.out.trans hb7,rfl,_,h7,?_,rfl⟩
      show ((P1+j:Nat):Int)=_
      rw [show p+(P1-p+j)=P1+j by omega]
     | ok st n =>
      obtain ⟨wlo,whi⟩:=hw
      rintro e7 w7 ⟨hb7,rfl,h7,A',c',hs7,hp7⟩;obtain ⟨P2,hP2⟩:∃ P2,Hid (P1+n=P2):=⟨_,rfl⟩
      have HR7:Hid (RowAt w B b s P2 (S1++[(st,A',c')]) w7 (some ⟨g,0,none⟩) c2 bd cd):=by
       refine ⟨?_,hs7,hp7,hb6.out.trans hb7⟩
       rw [← hP2.out,List.length_append];exact h7
      have HO2:Hid (qone (s.data.toList.drop p) ls=.ok ((S1++[(st,A',c')]).map (·.1)) (P2-p)):=by
       show _=_
       rw [HO1.out];show Told.ok (S1.map (·.1)++[st]) (P1-p+n)=_
       rw [List.map_append,show P1-p+n=P2-p by have:=hP2.out;omega];rfl
      have hP2l:P2≤s.size:=by have:=hP2.out;omega
      have hP2g:p<P2:=by have:=hP2.out;omega
      have HS:Hid (w7.drew.cell? ⟨b,0,none⟩=some (.string s)∧w7.drew.cell? ⟨b,1,none⟩=some (.int .i64 P2)):=⟨HR7.out.q.all.1,HR7.out.q.all.2.1⟩
      clear h7 hs7 hp7 hb7 z2 wlo whi;by_cases hend:P2=s.size
      ·have HV:Hid (V=.ok ((S1++[(st,A',c')]).map (·.1)) (p+(P2-p))):=by
        show _=_
        rw [← hin.out,zDl HO2.out (by rw [List.drop_drop];exact List.drop_eq_nil_of_le (by rw [HL.out];omega))];rfl
       have hcmp:((P2:Int) == (s.size:Int))=true:=by simp;omega
       clear hend
       go_wp2_with fail;refine wp_region_held_drew (S:=fun w'=>w'.cell? ⟨b,0,none⟩=some (.string s)∧w'.cell? ⟨b,1,none⟩=some (.int .i64 P2)) (by kernel_rfl) HS.out (fun hHeld=>?_)
       refine tkv 0 (h:=tkv 1 (h:=tkv 2 (h:=tkv 3 (h:=tkv 4 (h:=tkv 5 (h:=?_))))))
       refine tkv 6 (h:=tkv 7 (h:=tkv 8 (h:=tkv 9 (h:=?_))))
       refine wpAnyH_done (by kernel_rfl) ?_ _
       clear hHeld
       go_wp2_with fail
       try rw [Exit.noGoto_ret]
       go_ret;rw [HV.out];exact ⟨HR7.out.below.drew,rfl,P2,_,_,c2,bd,cd,HR7.out.q,HR7.out.s,HR7.out.p,rfl⟩
      ·have hcmp:((P2:Int) == (s.size:Int))=false:=by simp;omega
       have HIN:Hid ((qall (s.data.toList.drop P2) ((S1++[(st,A',c')]).map (·.1))).past P2=V):=by
        show _=_
        rw [← hin.out,zC1 HO2.out (by rw [List.drop_drop,show p+(P2-p)=P2 by omega];intro e;have:=congrArg List.length e;rw [List.length_drop,HL.out] at this;simp at this;omega),Told.past_past,List.drop_drop,show p+(P2-p)=P2 by omega]
       go_wp2_with fail;refine wp_region_held_drew (S:=fun w'=>w'.cell? ⟨b,0,none⟩=some (.string s)∧w'.cell? ⟨b,1,none⟩=some (.int .i64 P2)) (by kernel_rfl) HS.out (fun hHeld=>?_)
       refine tkv 0 (h:=tkv 1 (h:=tkv 2 (h:=tkv 3 (h:=tkv 4 (h:=tkv 5 (h:=?_))))))
       refine tkv 6 (h:=tkv 7 (h:=tkv 8 (h:=tkv 9 (h:=?_))))
       refine wpAnyH_done (by kernel_rfl) ?_ _
       clear hHeld
       go_wp2_with fail
       go_roundg (s.size-P2)
       case measure=>omega
       case rel=>exact ⟨P2,_,_,_,c2,bd,cd,hP2l,rfl,⟨HR7.out.q,HR7.out.s,HR7.out.p,HR7.out.below.drew⟩,rfl,HIN⟩
   | true =>
    have HM2:Hid (pre [47] (s.data.toList.drop (p+1))=true):=hm
    have hp2:=zBk hm
    rw [HL.out] at hp2;have HO0:=zGk HM.out (by rw [List.drop_drop];exact hm) ls
    rw [List.drop_drop] at HO0;clear hm;refine (zAw b _ w2 HR2.out.q [47] hp1 hs true HM2 (by decide)).mono ?_
    rintro e3 w3 ⟨rfl,h3,hg3⟩;have HR3:Hid (RowAt w B b s (p+2) S w3 A c bd cd):=HR2.out.called hB hBw h3 hg3
    clear h3
    go_wp2_with fail;refine (zG2 b B _ w3 HR3.out.q hB (Nat.le_trans hBw HR3.out.below.size) S rfl HR3.out.s HR3.out.p ⟨3,4,[],[]⟩ rfl p).mono ?_
    rintro e4 w4 ⟨hb4,h4⟩;rcases h4 with ⟨h20,rfl,hq4⟩ | ⟨h20,rfl,A1,c1,hq4,hs4,hp4⟩
    ·have HV:Hid (V=.bad p 70):=by
      show _=_
      rw [if_pos (by rw [← hls.out,List.length_map];exact h20)] at HO0
      rw [← hin.out,zBF HO0];rfl
     go_wp2_with fail
     try rw [Exit.noGoto_ret]
     go_ret;rw [HV.out];exact ⟨HR3.out.below.trans hb4,rfl,_,hq4,rfl,rfl⟩
    ·obtain ⟨S1,hS1⟩:∃ S1,Hid (S++[((⟨3,4,[],[]⟩:StepD),(none:Option Addr),(0:Nat))]=S1):=⟨_,rfl⟩
     obtain ⟨P1,hP1e⟩:∃ P1,Hid (p+2=P1):=⟨_,rfl⟩
     have hSm:S1.map (·.1)=ls++[⟨3,4,[],[]⟩]:=by rw [← hS1.out,List.map_append,hls.out];rfl
     have HO2:qone (s.data.toList.drop p) ls=if 20≤(S1.map (·.1)).length then .bad 0 70 else oneTold (P1-p) (S1.map (·.1)) (qstep (s.data.toList.drop P1)):=by
      rw [HO0,if_neg (by rw [← hls.out,List.length_map];omega),hSm,List.length_append,hP1e.out,show P1-p=2 by have:=hP1e.out;omega];rfl
     have HOn:=Lib.hid HO2
     have hP1:P1≤s.size:=by have:=hP1e.out;omega
     have hpP:p<P1:=by have:=hP1e.out;omega
     have HR1:Hid (RowAt w B b s P1 S1 w4 A1 c1 bd cd):=by
      show RowAt _ _ _ _ _ _ _ _ _ _ _
      rw [← hP1e.out,← hS1.out];refine ⟨?_,hs4,hp4,HR3.out.below.trans hb4⟩
      rw [List.length_append];exact hq4
     clear HO0 HO2 hSm hq4 hs4 hp4 hb4 h20;obtain ⟨_,_,z2,_⟩:=HR1.out.q.all
     go_wp2_with fail;refine (zG2 b B _ _ HR1.out.q hB (Nat.le_trans hBw HR1.out.below.size) S1 rfl HR1.out.s HR1.out.p ⟨0,0,[],[]⟩ rfl p).mono ?_
     rintro e5 w5 ⟨hb5,h5⟩;clear z2;rcases h5 with ⟨h20,rfl,hq5⟩ | ⟨h20,rfl,A2,c2,hq5,hs5,hp5⟩
     ·have HV:Hid (V=.bad p 70):=by
       show _=_
       have hq20:qone (s.data.toList.drop p) ls=.bad 0 70:=by rw [HOn.out,if_pos (show 20≤(S1.map (·.1)).length by rw [List.length_map];exact h20)]
       rw [← hin.out,zBF hq20];rfl
      go_wp2_with fail
      try rw [Exit.noGoto_ret]
      go_ret;rw [HV.out];exact ⟨HR1.out.below.trans hb5,rfl,_,hq5,rfl,rfl⟩
     ·have HO1:Hid (qone (s.data.toList.drop p) ls=oneTold (P1-p) (S1.map (·.1)) (qstep (s.data.toList.drop P1))):=by
       show _=_
       rw [HOn.out,if_neg (show ¬ 20≤(S1.map (·.1)).length by rw [List.length_map];omega)]
      obtain ⟨g,hA2⟩:∃ g,A2=some ⟨g,0,none⟩:=by
       obtain ⟨g,hg,_⟩:=zBn cellsS zAj hs5 (by simp)
       exact ⟨g,hg⟩
      subst hA2;obtain ⟨o,ho⟩:∃ o,Hid (S1.length * 4=o):=⟨_,rfl⟩
      have HQ5:=Lib.hid hq5
      have HS5:=Lib.hid hs5
      have HP5:=Lib.hid hp5
      have hb6:=Lib.hid (HR1.out.below.trans hb5)
      obtain ⟨_,_,z2,_⟩:=hq5.all
      have l0:(0:Int)≤(S1.length:Int):=by omega
      have l1:(S1.length:Int)<((S1.length+1:Nat):Int):=by omega
      have l2:S1.length<S1.length+1:=by omega
      obtain ⟨U,hU⟩:∃ U,Hid (qstep (s.data.toList.drop P1)=U):=⟨_,rfl⟩
      have hw:=zBT (s.data.toList.drop P1)
      rw [hU.out,List.length_drop,HL.out] at hw;clear hq5 hs5 hp5 hb5
      go_wp2_with fail;rw [ho.out];refine (zH4 b B _ w5 HQ5.out hB (Nat.le_trans hBw hb6.out.size) hP1 hs g S1 HS5.out HP5.out o ho U hU).mono ?_
      rw [hU.out] at HO1;cases U with
      | bad j d =>
       have HV:Hid (V=.bad (p+(P1-p+j)) d):=by
        show _=_
        rw [← hin.out,zBF HO1.out];rfl
       rintro e7 w7 ⟨hb7,rfl,p7,h7⟩;clear z2
       go_wp2_with fail
       try rw [Exit.noGoto_ret]
       go_ret;rw [HV.out];refine ⟨hb6.out.trans hb7,rfl,_,h7,?_,rfl⟩
       show ((P1+j:Nat):Int)=_
       rw [show p+(P1-p+j)=P1+j by omega]
      | ok st n =>
       obtain ⟨wlo,whi⟩:=hw
       rintro e7 w7 ⟨hb7,rfl,h7,A',c',hs7,hp7⟩;obtain ⟨P2,hP2⟩:∃ P2,Hid (P1+n=P2):=⟨_,rfl⟩
       have HR7:Hid (RowAt w B b s P2 (S1++[(st,A',c')]) w7 (some ⟨g,0,none⟩) c2 bd cd):=by
        refine ⟨?_,hs7,hp7,hb6.out.trans hb7⟩
        rw [← hP2.out,List.length_append];exact h7
       have HO2:Hid (qone (s.data.toList.drop p) ls=.ok ((S1++[(st,A',c')]).map (·.1)) (P2-p)):=by
        show _=_
        rw [HO1.out];show Told.ok (S1.map (·.1)++[st]) (P1-p+n)=_
        rw [List.map_append,show P1-p+n=P2-p by have:=hP2.out;omega];rfl
       have hP2l:P2≤s.size:=by have:=hP2.out;omega
       have hP2g:p<P2:=by have:=hP2.out;omega
       have HS:Hid (w7.drew.cell? ⟨b,0,none⟩=some (.string s)∧w7.drew.cell? ⟨b,1,none⟩=some (.int .i64 P2)):=⟨HR7.out.q.all.1,HR7.out.q.all.2.1⟩
       clear h7 hs7 hp7 hb7 z2 wlo whi;by_cases hend:P2=s.size
       ·have HV:Hid (V=.ok ((S1++[(st,A',c')]).map (·.1)) (p+(P2-p))):=by
         show _=_
         rw [← hin.out,zDl HO2.out (by rw [List.drop_drop];exact List.drop_eq_nil_of_le (by rw [HL.out];omega))];rfl
        have hcmp:((P2:Int) == (s.size:Int))=true:=by simp;omega
        clear hend
        go_wp2_with fail;refine wp_region_held_drew (S:=fun w'=>w'.cell? ⟨b,0,none⟩=some (.string s)∧w'.cell? ⟨b,1,none⟩=some (.int .i64 P2)) (by kernel_rfl) HS.out (fun hHeld=>?_)
        refine tkv 0 (h:=tkv 1 (h:=tkv 2 (h:=tkv 3 (h:=tkv 4 (h:=tkv 5 (h:=?_))))))
        refine tkv 6 (h:=tkv 7 (h:=tkv 8 (h:=tkv 9 (h:=?_))))
        refine wpAnyH_done (by kernel_rfl) ?_ _
        clear hHeld
        go_wp2_with fail
        try rw [Exit.noGoto_ret]
        go_ret;rw [HV.out];exact ⟨HR7.out.below.drew,rfl,P2,_,_,c2,bd,cd,HR7.out.q,HR7.out.s,HR7.out.p,rfl⟩
       ·have hcmp:((P2:Int) == (s.size:Int))=false:=by simp;omega
        have HIN:Hid ((qall (s.data.toList.drop P2) ((S1++[(st,A',c')]).map (·.1))).past P2=V):=by
         show _=_
         rw [← hin.out,zC1 HO2.out (by rw [List.drop_drop,show p+(P2-p)=P2 by omega];intro e;have:=congrArg List.length e;rw [List.length_drop,HL.out] at this;simp at this;omega),Told.past_past,List.drop_drop,show p+(P2-p)=P2 by omega]
        go_wp2_with fail;refine wp_region_held_drew (S:=fun w'=>w'.cell? ⟨b,0,none⟩=some (.string s)∧w'.cell? ⟨b,1,none⟩=some (.int .i64 P2)) (by kernel_rfl) HS.out (fun hHeld=>?_)
        refine tkv 0 (h:=tkv 1 (h:=tkv 2 (h:=tkv 3 (h:=tkv 4 (h:=tkv 5 (h:=?_))))))
        refine tkv 6 (h:=tkv 7 (h:=tkv 8 (h:=tkv 9 (h:=?_))))
        refine wpAnyH_done (by kernel_rfl) ?_ _
        clear hHeld
        go_wp2_with fail
        go_roundg (s.size-P2)
        case measure=>omega
        case rel=>exact ⟨P2,_,_,_,c2,bd,cd,hP2l,rfl,⟨HR7.out.q,HR7.out.s,HR7.out.p,HR7.out.below.drew⟩,rfl,HIN⟩
def ParsePost (w:World) (R:List StepD × Nat × Int) (e:Ending) (w':World):Prop :=
 Below w.heap.size w w'∧((R.2.2=0 ∧ ∃ A c S,e=.returned (.tuple #[.slice A S.length c,.int .i64 0,.int .i64 0])∧StepsOwn w' w.heap.size A c S∧SPreds w' w.heap.size S∧S.map (·.1)=R.1)
  ∨ (R.2.2≠0∧e=.returned (.tuple #[.slice none 0 0,.int .i64 R.2.1,.int .i64 R.2.2])))
theorem zI1 (s:ByteArray) (w:World) (_hm:s.size≤maxLen) (R:List StepD × Nat × Int) (hR:Hid (queryL s.data.toList=R)) :
  Calls Tryz.prog 39 #[.string s] w (ParsePost w R):=by
 have HL:=Lib.hid (zAH s)
 by_cases h200:200<s.size
 ·have h':(200:Int)<s.size:=by omega
  have HR:Hid (R=([],0,71)):=by show _=_;rw [← hR.out,zIm (by rw [HL.out];exact h200)]
  clear hR h200
  go_enter Tryz.func39,Tryz.ntmps39
  go_wp2_with fail
  go_ret3;rw [HR.out];exact ⟨Below.refl _ _,.inr ⟨by decide,rfl⟩⟩
 ·have h':(s.size:Int)≤200:=by omega
  have hs:s.size≤1000000000:=by omega
  obtain ⟨V,hV⟩:∃ V,Hid (qall s.data.toList []=V):=⟨_,rfl⟩
  have hRV:=hR.out
  unfold queryL at hRV;rw [if_neg (by rw [HL.out];exact h200),hV.out] at hRV
  have hwi:=zBS (s.data.toList.length+1) s.data.toList []
  rw [show qallF (s.data.toList.length+1) s.data.toList []=V from hV.out] at hwi
  clear hR h200;obtain ⟨W1,hW1⟩:∃ W1,Hid (W1=w.alloc (.cells #[.string s,.int .i64 0,.slice none 0 0,.int .i64 0,.int .i64 0] 126)):=⟨_,rfl⟩
  have hb1:Below w.heap.size w W1:=by rw [hW1.out];exact (Below.refl _ w).alloc (Nat.le_refl _) _
  have hq1:QAt W1 w.heap.size ⟨s,0,none,0,0,0,0⟩:=by unfold QAt;rw [hW1.out];exact heap_alloc_new w _
  go_enter Tryz.func39,Tryz.ntmps39
  go_wp2_with fail;rw [← hW1.out];refine (zLs w.heap.size w.heap.size s W1 hq1 (Nat.le_refl _) hb1.size hs V hV).mono ?_
  rintro e w2 ⟨hb2,h2⟩;have hbb:=hb1.trans hb2
  cases V with
  | bad k c =>
   obtain ⟨rfl,r,hq2,hbad,hcode⟩:=h2
   have HR:Hid (R=([],k,c)):=hRV.symm
   have hc0:c≠0:=hwi.2
   obtain ⟨_,_,_,z3,z4⟩:=hq2.all
   rw [hbad] at z3;rw [hcode] at z4;have HC:=Lib.hid hc0
   clear hRV hwi hc0 hq2 hbad hcode
   go_wp2_with fail;refine wp_region_held_drew (S:=fun w'=>w'.cell? ⟨w.heap.size,3,none⟩=some (.int .i64 k)∧w'.cell? ⟨w.heap.size,4,none⟩=some (.int .i64 c)) (by kernel_rfl) ⟨z3,z4⟩ (fun hHeld=>?_)
   refine tkv 0 (h:=tkv 1 (h:=tkv 2 (h:=tkv 3 (h:=tkv 4 (h:=tkv 5 (h:=?_))))))
   refine tkv 6 (h:=tkv 7 (h:=tkv 8 (h:=tkv 9 (h:=tkv 10 (h:=?_)))))
   refine wpAnyH_done (by kernel_rfl) ?_ _
   clear hHeld
   go_wp2_with fail
   go_ret3;rw [HR.out];exact ⟨hbb.drew,.inr ⟨HC.out,rfl⟩⟩
  | ok ls n =>
   obtain ⟨rfl,p,S,A,c,bd,cd,hq2,hs2,hp2,hm2⟩:=h2
   have HR:Hid (R=(ls,0,0)):=hRV.symm
   obtain ⟨_,_,z2,_⟩:=hq2.all
   have HS2:=Lib.hid hs2
   have HP2:=Lib.hid hp2
   have HM2:=Lib.hid hm2
   clear hRV hwi hq2 hs2 hp2 hm2
   go_wp2_with fail
   go_ret3;rw [HR.out];exact ⟨hbb,.inl ⟨rfl,A,c,S,rfl,HS2.out,HP2.out,HM2.out⟩⟩
end
section
open Go.RowKit
def SmallPred (p:PredD):Prop:=p.name.length≤1000000000∧p.value.length≤1000000000
theorem zIv (s:List UInt8) (w:World) (hs:s.length≤1000000000) (n:Int) (h:Hid (countL s=n)) :
  Calls Tryz.prog 80 #[.string ⟨s.toArray⟩] w (Ret w (.int .i64 n)):=zDb _ w (by show s.toArray.size≤maxLen;unfold maxLen;simp;omega) n h
theorem zMD (num:Int) (name value:List UInt8) (w:World) :
  Calls Tryz.prog 55 #[.agg #[.int .i64 1,.int .i64 num,.string ⟨name.toArray⟩,.string ⟨value.toArray⟩]] w (Ret w (.bool (decide (1≤num∧num≤9999) && decide (name=[]∧value=[])))):=by
 go_enter Tryz.func55,Tryz.ntmps55
 go_wp2_with fail
 all_goals go_ret
 all_goals refine ⟨?_,(Below.refl _ w).alloc (Nat.le_refl _) _⟩
 all_goals (refine congrArg (fun b=>Ending.returned (Value.bool b)) ?_)
 all_goals simp_all
 all_goals omega
theorem zME (num:Int) (name value:List UInt8) (w:World) :
  Calls Tryz.prog 55 #[.agg #[.int .i64 2,.int .i64 num,.string ⟨name.toArray⟩,.string ⟨value.toArray⟩]] w (Ret w (.bool (decide (num=0∧name=[]∧value=[])))):=by
 go_enter Tryz.func55,Tryz.ntmps55
 go_wp2_with fail
 all_goals go_ret
 all_goals refine ⟨?_,(Below.refl _ w).alloc (Nat.le_refl _) _⟩
 all_goals (refine congrArg (fun b=>Ending.returned (Value.bool b)) ?_)
 all_goals simp_all
theorem zMF (num:Int) (name value:List UInt8) (w:World) (hn:name.length≤1000000000) :
  Calls Tryz.prog 55 #[.agg #[.int .i64 3,.int .i64 num,.string ⟨name.toArray⟩,.string ⟨value.toArray⟩]] w (Ret w (.bool (nameL name && decide (num=0∧value=[])))):=by
 obtain ⟨v,hv⟩:∃ v,Hid (nameL name=v):=⟨_,rfl⟩
 rw [hv.out];obtain ⟨W1,hW1⟩:∃ W1,Hid (W1=w.alloc (.cells #[.int .i64 3,.int .i64 num,.string ⟨name.toArray⟩,.string ⟨value.toArray⟩] 102)):=⟨_,rfl⟩
 have hb1:Below w.heap.size w W1:=by rw [hW1.out];exact (Below.refl _ w).alloc (Nat.le_refl _) _
 have hz1:w.heap.size<W1.heap.size:=by rw [hW1.out];simp
 have y:∀ (j:Nat) (u:Value),(#[.int .i64 3,.int .i64 num,.string ⟨name.toArray⟩,.string ⟨value.toArray⟩]:Array Value)[j]? = some u→W1.cell? ⟨w.heap.size,j,none⟩=some u:=fun j u hu=>by rw [hW1.out,World.cell?_alloc_at _ _ _ _ rfl];exact hu
 have HY:=Lib.hid y
 clear y
 go_enter Tryz.func55,Tryz.ntmps55
 go_wp2_with fail;rw [← hW1.out];refine (zEg name W1 hn v hv).mono ?_
 rintro e w2 ⟨rfl,hb2⟩;have c0:w2.cell? ⟨w.heap.size,0,none⟩=some (.int .i64 3):=(hb2.cell hz1).trans (HY.out 0 _ rfl)
 have c1:w2.cell? ⟨w.heap.size,1,none⟩=some (.int .i64 num):=(hb2.cell hz1).trans (HY.out 1 _ rfl)
 have c2:w2.cell? ⟨w.heap.size,2,none⟩=some (.string ⟨name.toArray⟩):=(hb2.cell hz1).trans (HY.out 2 _ rfl)
 have c3:w2.cell? ⟨w.heap.size,3,none⟩=some (.string ⟨value.toArray⟩):=(hb2.cell hz1).trans (HY.out 3 _ rfl)
 have HB:=Lib.hid (hb1.trans (hb2.mono (Nat.le_of_lt hz1)))
 clear hb1 hb2;cases v with
 | false =>
  go_wp2_with fail
  all_goals go_ret
  all_goals refine ⟨?_,HB.out⟩
  all_goals (refine congrArg (fun b=>Ending.returned (Value.bool b)) ?_)
  all_goals simp_all
  all_goals (intros;omega)
 | true =>
  go_wp2_with fail
  all_goals go_ret
  all_goals refine ⟨?_,HB.out⟩
  all_goals (refine congrArg (fun b=>Ending.returned (Value.bool b)) ?_)
  all_goals simp_all
  all_goals (intros;omega)
theorem zMH (num:Int) (name value:List UInt8) (w:World) (hn:value.length≤1000000000) :
  Calls Tryz.prog 55 #[.agg #[.int .i64 5,.int .i64 num,.string ⟨name.toArray⟩,.string ⟨value.toArray⟩]] w (Ret w (.bool (decide (0≤countL value) && decide (num=0∧name=[])))):=by
 obtain ⟨n,hv⟩:∃ n,Hid (countL value=n):=⟨_,rfl⟩
 rw [hv.out];obtain ⟨W1,hW1⟩:∃ W1,Hid (W1=w.alloc (.cells #[.int .i64 5,.int .i64 num,.string ⟨name.toArray⟩,.string ⟨value.toArray⟩] 102)):=⟨_,rfl⟩
 have hb1:Below w.heap.size w W1:=by rw [hW1.out];exact (Below.refl _ w).alloc (Nat.le_refl _) _
 have hz1:w.heap.size<W1.heap.size:=by rw [hW1.out];simp
 have y:∀ (j:Nat) (u:Value),(#[.int .i64 5,.int .i64 num,.string ⟨name.toArray⟩,.string ⟨value.toArray⟩]:Array Value)[j]? = some u→W1.cell? ⟨w.heap.size,j,none⟩=some u:=fun j u hu=>by rw [hW1.out,World.cell?_alloc_at _ _ _ _ rfl];exact hu
 have HY:=Lib.hid y
 clear y
 go_enter Tryz.func55,Tryz.ntmps55
 go_wp2_with fail;rw [← hW1.out];refine (zIv value W1 hn n hv).mono ?_
 rintro e w2 ⟨rfl,hb2⟩;have c0:w2.cell? ⟨w.heap.size,0,none⟩=some (.int .i64 5):=(hb2.cell hz1).trans (HY.out 0 _ rfl)
 have c1:w2.cell? ⟨w.heap.size,1,none⟩=some (.int .i64 num):=(hb2.cell hz1).trans (HY.out 1 _ rfl)
 have c2:w2.cell? ⟨w.heap.size,2,none⟩=some (.string ⟨name.toArray⟩):=(hb2.cell hz1).trans (HY.out 2 _ rfl)
 have c3:w2.cell? ⟨w.heap.size,3,none⟩=some (.string ⟨value.toArray⟩):=(hb2.cell hz1).trans (HY.out 3 _ rfl)
 have HB:=Lib.hid (hb1.trans (hb2.mono (Nat.le_of_lt hz1)))
 clear hb1 hb2;by_cases h0:0≤n
 ·have d0:decide (0≤n)=true:=decide_eq_true h0
  rw [d0];clear d0
  go_wp2_with fail
  all_goals go_ret
  all_goals refine ⟨?_,HB.out⟩
  all_goals (refine congrArg (fun b=>Ending.returned (Value.bool b)) ?_)
  all_goals simp_all
  all_goals (intros;omega)
 ·have d0:decide (0≤n)=false:=decide_eq_false h0
  have h0':n<0:=by omega
  rw [d0];clear h0 d0
  go_wp2_with fail
  all_goals go_ret
  all_goals refine ⟨?_,HB.out⟩
  all_goals (refine congrArg (fun b=>Ending.returned (Value.bool b)) ?_)
  all_goals simp_all
  all_goals (intros;omega)
theorem zMG (num:Int) (name value:List UInt8) (w:World) (hn:name.length≤1000000000) (hv':value.length≤1000000000) :
  Calls Tryz.prog 55 #[.agg #[.int .i64 4,.int .i64 num,.string ⟨name.toArray⟩,.string ⟨value.toArray⟩]] w (Ret w (.bool (nameL name && (decide (0≤countL value) && decide (num=0))))):=by
 obtain ⟨v,hv⟩:∃ v,Hid (nameL name=v):=⟨_,rfl⟩
 obtain ⟨n,hc⟩:∃ n,Hid (countL value=n):=⟨_,rfl⟩
 rw [hv.out,hc.out];obtain ⟨W1,hW1⟩:∃ W1,Hid (W1=w.alloc (.cells #[.int .i64 4,.int .i64 num,.string ⟨name.toArray⟩,.string ⟨value.toArray⟩] 102)):=⟨_,rfl⟩
 have hb1:Below w.heap.size w W1:=by rw [hW1.out];exact (Below.refl _ w).alloc (Nat.le_refl _) _
 have hz1:w.heap.size<W1.heap.size:=by rw [hW1.out];simp
 have y:∀ (j:Nat) (u:Value),(#[.int .i64 4,.int .i64 num,.string ⟨name.toArray⟩,.string ⟨value.toArray⟩]:Array Value)[j]? = some u→W1.cell? ⟨w.heap.size,j,none⟩=some u:=fun j u hu=>by rw [hW1.out,World.cell?_alloc_at _ _ _ _ rfl];exact hu
 have HY:=Lib.hid y
 clear y
 go_enter Tryz.func55,Tryz.ntmps55
 go_wp2_with fail;rw [← hW1.out];refine (zEg name W1 hn v hv).mono ?_
 rintro e w2 ⟨rfl,hb2⟩;have hz2:=hb2.size
 have c1:w2.cell? ⟨w.heap.size,1,none⟩=some (.int .i64 num):=(hb2.cell hz1).trans (HY.out 1 _ rfl)
 have c3:w2.cell? ⟨w.heap.size,3,none⟩=some (.string ⟨value.toArray⟩):=(hb2.cell hz1).trans (HY.out 3 _ rfl)
 have HC1:=Lib.hid c1
 have HB:=Lib.hid (hb1.trans (hb2.mono (Nat.le_of_lt hz1)))
 clear hb1 hb2;cases v with
 | false =>
  go_wp2_with fail
  all_goals go_ret
  all_goals refine ⟨?_,HB.out⟩
  all_goals (refine congrArg (fun b=>Ending.returned (Value.bool b)) ?_)
  all_goals simp_all
  all_goals (intros;omega)
 | true =>
  go_wp2_with fail;refine (zIv value w2 hv' n hc).mono ?_
  rintro e w3 ⟨rfl,hb3⟩;have c1:w3.cell? ⟨w.heap.size,1,none⟩=some (.int .i64 num):=(hb3.cell (p:=⟨w.heap.size,1,none⟩) (by show w.heap.size<_;omega)).trans HC1.out
  have HB3:=Lib.hid (HB.out.trans (hb3.mono (by omega)))
  clear hb3 c3;by_cases h0:0≤n
  ·have d0:decide (0≤n)=true:=decide_eq_true h0
   rw [d0];clear d0;by_cases hz:num=0
   ·subst hz
    go_wp2_with fail
    all_goals go_ret
    all_goals refine ⟨?_,HB3.out⟩
    all_goals (refine congrArg (fun b=>Ending.returned (Value.bool b)) ?_)
    all_goals simp_all
    all_goals (intros;omega)
   ·have e0:(num == 0)=false:=by simpa using hz
    rw [decide_eq_false hz];clear hz
    go_wp2_with fail
    all_goals go_ret
    all_goals refine ⟨?_,HB3.out⟩
    all_goals (refine congrArg (fun b=>Ending.returned (Value.bool b)) ?_)
    all_goals simp_all
    all_goals (intros;omega)
  ·have d0:decide (0≤n)=false:=decide_eq_false h0
   have h0':n<0:=by omega
   rw [d0];clear h0 d0
   go_wp2_with fail
   all_goals go_ret
   all_goals refine ⟨?_,HB3.out⟩
   all_goals (refine congrArg (fun b=>Ending.returned (Value.bool b)) ?_)
   all_goals simp_all
   all_goals (intros;omega)
theorem zLF (k num:Int) (name value:List UInt8) (w:World) (h1:k≠1) (h2:k≠2) (h3:k≠3) (h4:k≠4) (h5:k≠5) :
  Calls Tryz.prog 55 #[.agg #[.int .i64 k,.int .i64 num,.string ⟨name.toArray⟩,.string ⟨value.toArray⟩]] w (Ret w (.bool false)):=by
 have e1:(k == 1)=false:=by simpa using h1
 have e2:(k == 2)=false:=by simpa using h2
 have e3:(k == 3)=false:=by simpa using h3
 have e4:(k == 4)=false:=by simpa using h4
 have e5:(k == 5)=false:=by simpa using h5
 clear h1 h2 h3 h4 h5
 go_enter Tryz.func55,Tryz.ntmps55
 go_wp2_with fail
 go_ret;exact ⟨rfl,(Below.refl _ w).alloc (Nat.le_refl _) _⟩
theorem zGm (p:PredD) (w:World) (hp:SmallPred p) (v:Bool) (hv:Hid (predB p=v)):Calls Tryz.prog 55 #[.agg (predC p)] w (Ret w (.bool v)):=by
 rw [← hv.out];obtain ⟨k,n,name,value⟩:=p
 obtain ⟨hn,hvl⟩:=hp
 unfold predB predC;simp only
 by_cases h1:k=1
 ·subst h1;rw [if_pos rfl];exact zMD n name value w
 rw [if_neg h1];by_cases h2:k=2
 ·subst h2;rw [if_pos rfl];exact zME n name value w
 rw [if_neg h2];by_cases h3:k=3
 ·subst h3;rw [if_pos rfl];exact zMF n name value w hn
 rw [if_neg h3];by_cases h4:k=4
 ·subst h4;rw [if_pos rfl];exact zMG n name value w hn hvl
 rw [if_neg h4];by_cases h5:k=5
 ·subst h5;rw [if_pos rfl];exact zMH n name value w hvl
 rw [if_neg h5];exact zLF k n name value w h1 h2 h3 h4 h5
end
section
open Go.RowKit
def PredsAt (w:World) (B:Nat) (A:Option Addr) (l:List PredD):Prop :=
 0<l.length → ∃ ad,A=some ad∧ad.block<B ∧ ∀ k p,l[k]? = some p→w.cell? (ad.add (k * 4))=some (.int .i64 p.kind)∧w.cell? ⟨(ad.add (k * 4)).block,(ad.add (k * 4)).off+1,none⟩=some (.int .i64 p.num) ∧
  w.cell? ⟨(ad.add (k * 4)).block,(ad.add (k * 4)).off+2,none⟩=some (.string ⟨p.name.toArray⟩)∧w.cell? ⟨(ad.add (k * 4)).block,(ad.add (k * 4)).off+3,none⟩=some (.string ⟨p.value.toArray⟩)
def StepsAt (w:World) (B:Nat) (A:Option Addr) (l:List StepD):Prop :=
 0<l.length → ∃ ad,A=some ad∧ad.block<B ∧ ∀ k s,l[k]? = some s → ∃ A' c,PredsAt w B A' s.preds∧s.preds.length≤c ∧
  w.cell? (ad.add (k * 4))=some (.int .i64 s.axis)∧w.cell? ⟨(ad.add (k * 4)).block,(ad.add (k * 4)).off+1,none⟩=some (.int .i64 s.test) ∧
  w.cell? ⟨(ad.add (k * 4)).block,(ad.add (k * 4)).off+2,none⟩=some (.string ⟨s.name.toArray⟩)∧w.cell? ⟨(ad.add (k * 4)).block,(ad.add (k * 4)).off+3,none⟩=some (.slice A' s.preds.length c)
section
variable {w w':World} {B B':Nat} {A:Option Addr}
theorem PredsAt.keep {l:List PredD} (h:PredsAt w B A l) (hk:∀ p:Addr,p.block<B→w'.cell? p=w.cell? p):PredsAt w' B A l:=fun hn=>by
 obtain ⟨ad,e,hb,hc⟩:=h hn
 have hk':∀ k n,w'.cell? ⟨(ad.add (k * 4)).block,n,none⟩=w.cell? ⟨(ad.add (k * 4)).block,n,none⟩:=fun k n=>hk _ (by show (ad.add _).block<B;rw [zAD];exact hb)
 refine ⟨ad,e,hb,fun k p hp=>?_⟩
 obtain ⟨h0,h1,h2,h3⟩:=hc k p hp
 exact ⟨(hk _ (by rw [zAD];exact hb)).trans h0,(hk' k _).trans h1,(hk' k _).trans h2,(hk' k _).trans h3⟩
theorem PredsAt.more {l:List PredD} (h:PredsAt w B A l) (hB:B≤B'):PredsAt w B' A l:=fun hn=>by
 obtain ⟨ad,e,hb,hc⟩:=h hn
 exact ⟨ad,e,by omega,hc⟩
theorem StepsAt.keep {l:List StepD} (h:StepsAt w B A l) (hk:∀ p:Addr,p.block<B→w'.cell? p=w.cell? p):StepsAt w' B A l:=fun hn=>by
 obtain ⟨ad,e,hb,hc⟩:=h hn
 have hk':∀ k n,w'.cell? ⟨(ad.add (k * 4)).block,n,none⟩=w.cell? ⟨(ad.add (k * 4)).block,n,none⟩:=fun k n=>hk _ (by show (ad.add _).block<B;rw [zAD];exact hb)
 refine ⟨ad,e,hb,fun k s hs=>?_⟩
 obtain ⟨A',c,hp,hcc,h0,h1,h2,h3⟩:=hc k s hs
 exact ⟨A',c,hp.keep hk,hcc,(hk _ (by rw [zAD];exact hb)).trans h0,(hk' k _).trans h1,(hk' k _).trans h2,(hk' k _).trans h3⟩
theorem StepsAt.more {l:List StepD} (h:StepsAt w B A l) (hB:B≤B'):StepsAt w B' A l:=fun hn=>by
 obtain ⟨ad,e,hb,hc⟩:=h hn
 refine ⟨ad,e,by omega,fun k s hs=>?_⟩
 obtain ⟨A',c,hp,hcc⟩:=hc k s hs
 exact ⟨A',c,hp.more hB,hcc⟩
theorem PredsAt.below {l:List PredD} (h:PredsAt w B A l) (hb:Below B w w'):PredsAt w' B A l:=h.keep fun _ hp=>hb.cell hp
theorem StepsAt.below {l:List StepD} (h:StepsAt w B A l) (hb:Below B w w'):StepsAt w' B A l:=h.keep fun _ hp=>hb.cell hp
theorem StepsAt.item {ad:Addr} {l:List StepD} (h:StepsAt w B (some ad) l) {k:Nat} {s:StepD} (hs:l[k]? = some s):ad.block<B ∧ ∃ A' c,PredsAt w B A' s.preds∧s.preds.length≤c ∧
  w.cell? (ad.add (k * 4))=some (.int .i64 s.axis)∧w.cell? ⟨(ad.add (k * 4)).block,(ad.add (k * 4)).off+1,none⟩=some (.int .i64 s.test) ∧
  w.cell? ⟨(ad.add (k * 4)).block,(ad.add (k * 4)).off+2,none⟩=some (.string ⟨s.name.toArray⟩)∧w.cell? ⟨(ad.add (k * 4)).block,(ad.add (k * 4)).off+3,none⟩=some (.slice A' s.preds.length c):=by
 obtain ⟨ad',e,hb,hc⟩:=h (by have:=(List.getElem?_eq_some_iff.1 hs).1;omega)
 injection e with e;subst e
 exact ⟨hb,hc k s hs⟩
end
theorem PredsOwn.at {w:World} {B:Nat} {A:Option Addr} {c:Nat} {l:List PredD} (h:PredsOwn w B A c l):PredsAt w w.heap.size A l:=fun hl=>by
 obtain ⟨g,rfl,hb,hg,_,hc⟩:=zBn cellsP zCr h hl
 refine ⟨_,rfl,hg,fun k p hp=>?_⟩
 have e:∀ j u,(cellsP p)[j]? = some u→w.cell? ⟨g,k * 4+j,none⟩=some u:=fun j u hu=>by
  have:=hc k p j u hp hu
  rwa [zAm] at this
 rw [zAm];exact ⟨e 0 _ rfl,e 1 _ rfl,e 2 _ rfl,e 3 _ rfl⟩
theorem PredsOwn.cap {w:World} {B:Nat} {A:Option Addr} {c:Nat} {l:List PredD} (h:PredsOwn w B A c l):l.length≤c:=by
 rcases h.2 with ⟨h1,h2⟩ | ⟨g,cap,cur,h1,_,_,h4,_⟩
 ·omega
 ·injection h1 with _ _ h3;omega
theorem StepsOwn.at {w:World} {B:Nat} {A:Option Addr} {c:Nat} {S:List QSlot} (h:StepsOwn w B A c S) (hp:SPreds w B S):StepsAt w w.heap.size A (S.map (·.1)):=fun hl=>by
 have hl':0<S.length:=by simpa using hl
 obtain ⟨g,rfl,hb,hg,_,hc⟩:=zBn cellsS zAj h hl'
 refine ⟨_,rfl,hg,fun k s hs=>?_⟩
 rw [List.getElem?_map] at hs;obtain ⟨x,hx,rfl⟩:=Option.map_eq_some_iff.1 hs
 have h1:=hp x (List.mem_of_getElem? hx)
 have e:∀ j u,(cellsS x)[j]? = some u→w.cell? ⟨g,k * 4+j,none⟩=some u:=fun j u hu=>by
  have:=hc k x j u hx hu
  rwa [zAm] at this
 refine ⟨x.2.1,x.2.2,h1.at,h1.cap,?_⟩
 rw [zAm];exact ⟨e 0 _ rfl,e 1 _ rfl,e 2 _ rfl,e 3 _ rfl⟩
def SmallStep (s:StepD):Prop:=s.name.length≤1000000000∧s.preds.length≤1000000000 ∧ ∀ p∈s.preds,SmallPred p
def SmallSteps (l:List StepD):Prop:=l.length≤1000000000 ∧ ∀ s∈l,SmallStep s
def nameB (s:StepD):Bool:=if s.test=1 then nameL s.name else decide (s.name=[])
def headB (s:StepD):Bool:=decide (1≤s.axis∧s.axis≤8) && decide (1≤s.test∧s.test≤4) && nameB s && decide (s.preds.length≤5)
theorem zFB (s:StepD):stepB s=(headB s && s.preds.all predB):=rfl
theorem zF3 (l:List StepD) (A:Option Addr) (c:Nat) (w:World) (hA:StepsAt w w.heap.size A l) (hs:SmallSteps l) (R:Bool) (hR:Hid (rightL l=R)) :
  Calls Tryz.prog 33 #[.slice A l.length c] w (Ret w (.bool R)):=by
 have HA:=Lib.hid hA
 have HS:=Lib.hid hs
 obtain ⟨Q,hQ⟩:∃ Q,Hid (l.all stepB=Q):=⟨_,rfl⟩
 have hRQ:=hR.out
 unfold rightL at hRQ;rw [hQ.out] at hRQ;have HRQ:=Lib.hid hRQ
 have hl:=hs.1
 clear hA hs hRQ hR
 go_enter Tryz.func33,Tryz.ntmps33
 go_wp2_with fail
 go_loopw [10] (fun i wr=>∃ (n:Nat),n≤l.length∧i=.int .i64 (n:Int)∧Hid ((l.drop n).all stepB=Q)∧Hid (Below w.heap.size w wr)) (fun i _=>l.length-(intOf i).toNat)
 case atStart=>exact ⟨0,Nat.zero_le _,by go_num,hQ.out,Below.refl _ _⟩
 case round =>
  obtain ⟨n,hnl,rfl,hin,hbelH⟩:=hrel
  have j0:(0:Int)≤(n:Int):=by omega
  by_cases hlt:n<l.length
  ·obtain ⟨ad,rfl,_⟩:=HA.out (by omega)
   obtain ⟨s,hy⟩:∃ s,Hid (l[n]? = some s):=⟨l[n],List.getElem?_eq_getElem _⟩
   obtain ⟨hb,A',c',hpa,hpc,hs0,hs1,hs2,hs3⟩:=HA.out.item hy.out
   obtain ⟨hsn,hsp,hsm⟩:=HS.out.2 s (List.mem_of_getElem? hy.out)
   have HSM:=Lib.hid hsm
   have HPA:=Lib.hid hpa
   have hbel:=hbelH.out
   have hin':=hin.out
   rw [zAY hy.out,List.all_cons,zFB] at hin';have j1:(n:Int)<l.length:=by omega
   have c0:wr.cell? (ad.add (n * 4))=some (.int .i64 s.axis):=(hbel.cell (by rw [zAD];exact hb)).trans hs0
   have c1:wr.cell? ⟨(ad.add (n * 4)).block,(ad.add (n * 4)).off+1,none⟩=some (.int .i64 s.test):=(hbel.cell (by show (ad.add _).block<_;rw [zAD];exact hb)).trans hs1
   have c2:wr.cell? ⟨(ad.add (n * 4)).block,(ad.add (n * 4)).off+2,none⟩=some (.string ⟨s.name.toArray⟩):=(hbel.cell (by show (ad.add _).block<_;rw [zAD];exact hb)).trans hs2
   have c3:wr.cell? ⟨(ad.add (n * 4)).block,(ad.add (n * 4)).off+3,none⟩=some (.slice A' s.preds.length c'):=(hbel.cell (by show (ad.add _).block<_;rw [zAD];exact hb)).trans hs3
   clear hs0 hs1 hs2 hs3 hpa hsm hin hbel;cases hok:headB s with
   | false =>
    have HQ:Hid (Q=false):=by show _=_;rw [← hin',hok];rfl
    have HR:Hid (R=false):=by show _=_;rw [← HRQ.out,HQ.out];rfl
    clear hin';obtain ⟨W1,hW1⟩:∃ W1,Hid (W1=wr.alloc (.cells #[.int .i64 s.axis,.int .i64 s.test,.string ⟨s.name.toArray⟩,.slice A' s.preds.length c'] 45)):=⟨_,rfl⟩
    have hb1:Below wr.heap.size wr W1:=by rw [hW1.out];exact (Below.refl _ wr).alloc (Nat.le_refl _) _
    have hz1:wr.heap.size<W1.heap.size:=by rw [hW1.out];simp
    have HB1:Hid (Below w.heap.size w W1):=hbelH.out.trans (hb1.mono hbelH.out.size)
    by_cases ht:s.test=1
    ·have t1:(s.test == 1)=true:=by simpa using ht
     obtain ⟨v,hv⟩:∃ v,Hid (nameL s.name=v):=⟨_,rfl⟩
     have HT:=Lib.hid ht
     have hvo:=hv.out
     have HOK:Hid ((decide (1≤s.axis∧s.axis≤8) && decide (1≤s.test∧s.test≤4) && v && decide (s.preds.length≤5))=false):=by
      show _=_
      rw [← hok];unfold headB nameB;rw [if_pos ht,hvo]
     clear ht hvo hok;have y:∀ (j:Nat) (u:Value),(#[.int .i64 s.axis,.int .i64 s.test,.string ⟨s.name.toArray⟩,.slice A' s.preds.length c']:Array Value)[j]? = some u→W1.cell? ⟨wr.heap.size,j,none⟩=some u:=fun j u hu=>by rw [hW1.out,World.cell?_alloc_at _ _ _ _ rfl];exact hu
     have HY:=Lib.hid y
     clear y
     go_wp2_with fail;rw [← hW1.out];refine (zEg s.name W1 hsn v hv).mono ?_
     rintro e w2 ⟨rfl,hb2⟩;have b0:w2.cell? ⟨wr.heap.size,0,none⟩=some (.int .i64 s.axis):=(hb2.cell hz1).trans (HY.out 0 _ rfl)
     have b1:w2.cell? ⟨wr.heap.size,1,none⟩=some (.int .i64 s.test):=(hb2.cell hz1).trans (HY.out 1 _ rfl)
     have b2:w2.cell? ⟨wr.heap.size,2,none⟩=some (.string ⟨s.name.toArray⟩):=(hb2.cell hz1).trans (HY.out 2 _ rfl)
     have b3:w2.cell? ⟨wr.heap.size,3,none⟩=some (.slice A' s.preds.length c'):=(hb2.cell hz1).trans (HY.out 3 _ rfl)
     have HB2:Hid (Below w.heap.size w w2):=HB1.out.trans (hb2.mono HB1.out.size)
     clear hb2 hb1 c0 c1 c2 c3;cases v with
     | false =>
      go_wp2_with fail
      all_goals first
       | (go_ret;exact ⟨by rw [HR.out];rfl,HB2.out⟩)
       | (exfalso;have hok:=HOK.out;simp only [Bool.and_eq_false_iff,decide_eq_false_iff_not] at hok;rcases hok with ((hok | hok) | hok) | hok;all_goals first | omega | simp_all)
     | true =>
      go_wp2_with fail
      all_goals first
       | (go_ret;exact ⟨by rw [HR.out];rfl,HB2.out⟩)
       | (exfalso;have hok:=HOK.out;simp only [Bool.and_eq_false_iff,decide_eq_false_iff_not] at hok;rcases hok with ((hok | hok) | hok) | hok;all_goals first | omega | simp_all)
    ·have t1:(s.test == 1)=false:=by simpa using ht
     have HOK:Hid ((decide (1≤s.axis∧s.axis≤8) && decide (1≤s.test∧s.test≤4) && decide (s.name=[]) && decide (s.preds.length≤5))=false):=by
      show _=_
      rw [← hok];unfold headB nameB;rw [if_neg ht]
     have t2:(s.test != 1)=true:=by simpa using ht
     clear hok
     go_wp2_with fail
     all_goals first
      | (go_ret;exact ⟨by rw [HR.out];rfl,hbelH.out.alloc hbelH.out.size _⟩)
      | (exfalso;have hok:=HOK.out;simp only [Bool.and_eq_false_iff,decide_eq_false_iff_not] at hok;rcases hok with ((hok | hok) | hok) | hok;all_goals first | omega | simp_all)
   | true =>
    obtain ⟨Q2,hQ2⟩:∃ Q2,Hid (s.preds.all predB=Q2):=⟨_,rfl⟩
    rw [hok,Bool.true_and,hQ2.out] at hin';unfold headB nameB at hok;simp only [Bool.and_eq_true,decide_eq_true_eq] at hok;obtain ⟨⟨⟨⟨a1,a2⟩,a3,a4⟩,hnm⟩,a5⟩:=hok
    have a5':(s.preds.length:Int)≤5:=by omega
    obtain ⟨W1,hW1⟩:∃ W1,Hid (W1=wr.alloc (.cells #[.int .i64 s.axis,.int .i64 s.test,.string ⟨s.name.toArray⟩,.slice A' s.preds.length c'] 45)):=⟨_,rfl⟩
    have hb1:Below wr.heap.size wr W1:=by rw [hW1.out];exact (Below.refl _ wr).alloc (Nat.le_refl _) _
    have hz1:wr.heap.size<W1.heap.size:=by rw [hW1.out];simp
    have HB1:Hid (Below w.heap.size w W1):=hbelH.out.trans (hb1.mono hbelH.out.size)
    by_cases ht:s.test=1
    ·have t1:(s.test == 1)=true:=by simpa using ht
     obtain ⟨v,hv⟩:∃ v,Hid (nameL s.name=v):=⟨_,rfl⟩
     rw [if_pos ht,hv.out] at hnm;subst hnm;clear ht;have y:∀ (j:Nat) (u:Value),(#[.int .i64 s.axis,.int .i64 s.test,.string ⟨s.name.toArray⟩,.slice A' s.preds.length c']:Array Value)[j]? = some u→W1.cell? ⟨wr.heap.size,j,none⟩=some u:=fun j u hu=>by rw [hW1.out,World.cell?_alloc_at _ _ _ _ rfl];exact hu
     have HY:=Lib.hid y
     clear y
     go_wp2_with fail;rw [← hW1.out];refine (zEg s.name W1 hsn true hv).mono ?_
     rintro e w2 ⟨rfl,hb2⟩;have b0:w2.cell? ⟨wr.heap.size,0,none⟩=some (.int .i64 s.axis):=(hb2.cell hz1).trans (HY.out 0 _ rfl)
     have b1:w2.cell? ⟨wr.heap.size,1,none⟩=some (.int .i64 s.test):=(hb2.cell hz1).trans (HY.out 1 _ rfl)
     have b2:w2.cell? ⟨wr.heap.size,2,none⟩=some (.string ⟨s.name.toArray⟩):=(hb2.cell hz1).trans (HY.out 2 _ rfl)
     have b3:w2.cell? ⟨wr.heap.size,3,none⟩=some (.slice A' s.preds.length c'):=(hb2.cell hz1).trans (HY.out 3 _ rfl)
     have HB2:Hid (Below w.heap.size w w2):=HB1.out.trans (hb2.mono HB1.out.size)
     clear hb2 hb1 c0 c1 c2 c3
     go_wp2_with fail;clear b0 b1 b2 b3
     go_loopw [63] (fun i wq=>∃ (m:Nat),m≤s.preds.length∧i=.int .i64 (m:Int)∧Hid ((s.preds.drop m).all predB=Q2)∧Hid (Below w.heap.size w wq)) (fun i _=>s.preds.length-(intOf i).toNat)
     case atStart=>exact ⟨0,Nat.zero_le _,by go_num,hQ2.out,HB2.out⟩
     case round =>
      rename_i wq0 _
      obtain ⟨m,hml,rfl,hin2,hbq⟩:=hrel
      have m0:(0:Int)≤(m:Int):=by omega
      by_cases hmt:m<s.preds.length
      ·obtain ⟨pd,rfl,_⟩:=HPA.out (by omega)
       obtain ⟨x,hx⟩:∃ x,Hid (s.preds[m]? = some x):=⟨s.preds[m],List.getElem?_eq_getElem _⟩
       obtain ⟨pd',he',hpb,hpc'⟩:=HPA.out (by omega)
       injection he' with he'
       subst he';obtain ⟨p0,p1,p2,p3⟩:=hpc' m x hx.out
       have q0:=(hbq.out.cell (p:=pd.add (m * 4)) (by rw [zAD];exact hpb)).trans p0
       have q1:=(hbq.out.cell (p:=⟨(pd.add (m * 4)).block,(pd.add (m * 4)).off+1,none⟩) (by show (pd.add _).block<_;rw [zAD];exact hpb)).trans p1
       have q2:=(hbq.out.cell (p:=⟨(pd.add (m * 4)).block,(pd.add (m * 4)).off+2,none⟩) (by show (pd.add _).block<_;rw [zAD];exact hpb)).trans p2
       have q3:=(hbq.out.cell (p:=⟨(pd.add (m * 4)).block,(pd.add (m * 4)).off+3,none⟩) (by show (pd.add _).block<_;rw [zAD];exact hpb)).trans p3
       have m1:(m:Int)<s.preds.length:=by omega
       obtain ⟨v,hv⟩:∃ v,Hid (predB x=v):=⟨_,rfl⟩
       have hin3:=hin2.out
       rw [zAY hx.out,List.all_cons,hv.out] at hin3;clear p0 p1 p2 p3 hpc' hin2
       go_wp2_with fail;refine (zGm x _ (HSM.out x (List.mem_of_getElem? hx.out)) v hv).mono ?_
       rintro e w8 ⟨rfl,hb8⟩;have hb9:Hid (Below w.heap.size w w8):=(hbq.out.alloc hbq.out.size _).trans (hb8.mono (by have:=hbq.out.size;simp;omega))
       clear q0 q1 q2 q3 hb8;cases v with
       | false =>
        have HR:Hid (R=false):=by
         show _=_
         rw [← HRQ.out,← hin',← hin3];rfl
        go_wp2_with fail
        go_ret;exact ⟨by rw [HR.out];rfl,hb9.out⟩
       | true =>
        have HIN3:Hid ((s.preds.drop (m+1)).all predB=Q2):=by show _=_;rw [← hin3];rfl
        go_wp2_with fail
        go_roundw
        case rel=>exact ⟨m+1,by omega,by go_num,HIN3,hb9.out⟩
        case measure=>simp [intOf];omega
      ·have HQ2:Hid (Q2=true):=by
        show _=_
        rw [← hin2.out,List.drop_eq_nil_of_le (by omega)];rfl
       have HIN:Hid ((l.drop (n+1)).all stepB=Q):=by show _=_;rw [← hin',HQ2.out];rfl
       have m1:(s.preds.length:Int)≤m:=by omega
       clear hin2
       go_wp2_with fail
       go_roundw
       case rel=>exact ⟨n+1,by omega,by go_num,HIN,hbq.out⟩
       case measure=>simp [intOf];omega
    ·have t1:(s.test == 1)=false:=by simpa using ht
     rw [if_neg ht] at hnm;have hnm':s.name=[]:=by simpa using hnm
     rw [hnm'] at c2 hW1;have t2:(s.test != 1)=true:=by simpa using ht
     clear hnm
     go_wp2_with fail;rw [← hW1.out];clear c0 c1 c2 c3
     go_loopw [63] (fun i wq=>∃ (m:Nat),m≤s.preds.length∧i=.int .i64 (m:Int)∧Hid ((s.preds.drop m).all predB=Q2)∧Hid (Below w.heap.size w wq)) (fun i _=>s.preds.length-(intOf i).toNat)
     case atStart=>exact ⟨0,Nat.zero_le _,by go_num,hQ2.out,HB1.out⟩
     case round =>
      rename_i wq0 _
      obtain ⟨m,hml,rfl,hin2,hbq⟩:=hrel
      have m0:(0:Int)≤(m:Int):=by omega
      by_cases hmt:m<s.preds.length
      ·obtain ⟨pd,rfl,_⟩:=HPA.out (by omega)
       obtain ⟨x,hx⟩:∃ x,Hid (s.preds[m]? = some x):=⟨s.preds[m],List.getElem?_eq_getElem _⟩
       obtain ⟨pd',he',hpb,hpc'⟩:=HPA.out (by omega)
       injection he' with he'
       subst he';obtain ⟨p0,p1,p2,p3⟩:=hpc' m x hx.out
       have q0:=(hbq.out.cell (p:=pd.add (m * 4)) (by rw [zAD];exact hpb)).trans p0
       have q1:=(hbq.out.cell (p:=⟨(pd.add (m * 4)).block,(pd.add (m * 4)).off+1,none⟩) (by show (pd.add _).block<_;rw [zAD];exact hpb)).trans p1
       have q2:=(hbq.out.cell (p:=⟨(pd.add (m * 4)).block,(pd.add (m * 4)).off+2,none⟩) (by show (pd.add _).block<_;rw [zAD];exact hpb)).trans p2
       have q3:=(hbq.out.cell (p:=⟨(pd.add (m * 4)).block,(pd.add (m * 4)).off+3,none⟩) (by show (pd.add _).block<_;rw [zAD];exact hpb)).trans p3
       have m1:(m:Int)<s.preds.length:=by omega
       obtain ⟨v,hv⟩:∃ v,Hid (predB x=v):=⟨_,rfl⟩
       have hin3:=hin2.out
       rw [zAY hx.out,List.all_cons,hv.out] at hin3;clear p0 p1 p2 p3 hpc' hin2
       go_wp2_with fail;refine (zGm x _ (HSM.out x (List.mem_of_getElem? hx.out)) v hv).mono ?_
       rintro e w8 ⟨rfl,hb8⟩;have hb9:Hid (Below w.heap.size w w8):=(hbq.out.alloc hbq.out.size _).trans (hb8.mono (by have:=hbq.out.size;simp;omega))
       clear q0 q1 q2 q3 hb8;cases v with
       | false =>
        have HR:Hid (R=false):=by
         show _=_
         rw [← HRQ.out,← hin',← hin3];rfl
        go_wp2_with fail
        go_ret;exact ⟨by rw [HR.out];rfl,hb9.out⟩
       | true =>
        have HIN3:Hid ((s.preds.drop (m+1)).all predB=Q2):=by show _=_;rw [← hin3];rfl
        go_wp2_with fail
        go_roundw
        case rel=>exact ⟨m+1,by omega,by go_num,HIN3,hb9.out⟩
        case measure=>simp [intOf];omega
      ·have HQ2:Hid (Q2=true):=by
        show _=_
        rw [← hin2.out,List.drop_eq_nil_of_le (by omega)];rfl
       have HIN:Hid ((l.drop (n+1)).all stepB=Q):=by show _=_;rw [← hin',HQ2.out];rfl
       have m1:(s.preds.length:Int)≤m:=by omega
       clear hin2
       go_wp2_with fail
       go_roundw
       case rel=>exact ⟨n+1,by omega,by go_num,HIN,hbq.out⟩
       case measure=>simp [intOf];omega
  ·have HQ:Hid (Q=true):=by
    show _=_
    rw [← hin.out,List.drop_eq_nil_of_le (by omega)];rfl
   have hRl:(decide (1≤l.length∧l.length≤20))=R:=by rw [← HRQ.out,HQ.out];rfl
   have j1:(l.length:Int)≤n:=by omega
   clear hin;by_cases h1:1≤l.length
   ·by_cases h2:l.length≤20
    ·have HR:Hid (R=true):=by show _=_;rw [← hRl];simp;omega
     have k1:(1:Int)≤l.length:=by omega
     have k2:(l.length:Int)≤20:=by omega
     clear hRl h1 h2
     go_wp2_with fail
     go_ret;exact ⟨by rw [HR.out];rfl,hbelH.out⟩
    ·have HR:Hid (R=false):=by show _=_;rw [← hRl];simp;omega
     have k1:(1:Int)≤l.length:=by omega
     have k2:decide ((l.length:Int)≤20)=false:=decide_eq_false (by omega)
     clear hRl h1 h2
     go_wp2_with fail
     go_ret;exact ⟨by rw [HR.out];rfl,hbelH.out⟩
   ·have HR:Hid (R=false):=by show _=_;rw [← hRl];simp;omega
    have k1:(l.length:Int)<1:=by omega
    clear hRl h1
    go_wp2_with fail
    go_ret;exact ⟨by rw [HR.out];rfl,hbelH.out⟩
end
section
open Go.RowKit Go.Shelf
attribute [local go_sem] Oper.semAt_some zJl zD9 zJm zB8 zJI zDt zJJ zB3 zB4 zB5 zB6
theorem BoxRow.stabE {N M bx:Nat} {ty e:TypeId} {size n:Nat} {xs:List Value} {E:Nat→Prop} (Fp:Nat→Prop) (hE:∀ b,Fp b → ¬ E b):StabE E M Fp (BoxRow N bx ty e size n xs Fp):=by
 rintro A B ⟨v,h1,h2,h3,h4⟩ hk;have kb:∀ b,b<A.heap.size→Fp b→B.heap[b]? = A.heap[b]?:=fun b hb hf=>hk.block b hb (fun h=>by
  rcases h with ⟨_,h⟩ | h
  ·exact h hf
  ·exact hE b hf h)
 exact ⟨v,(kb bx (Array.getElem?_eq_some_iff.1 h1).1 h3).trans h1,zAC h2 fun b hb=>kb b (zAJ h2 hb) (h4 b hb).1,h3,h4⟩
theorem zG9 {E F0 Fq:Nat→Prop} {w A B:World} (h:GrowsE E F0 Fq w A) (hk:Turn (fun b=>(w.heap.size≤b ∧ ¬ Fq b)∨E b) A B):GrowsE E F0 Fq w B :=
 ⟨⟨hk.os.trans h.1.os,hk.tape.trans h.1.tape,hk.output.trans h.1.output,Nat.le_trans h.1.size hk.size,fun b hb hf=>(hk.block b (Nat.lt_of_lt_of_le hb h.1.size) (fun h'=>by
  rcases h' with ⟨h',_⟩ | h'
  ·omega
  ·exact hf (.inr h'))).trans (h.1.block b hb hf)⟩,h.2⟩
section
variable {M:Nat→Prop} {t:Nat} {f:Fo} {next:Int} {w w':World}
theorem zF6 (h:InvF f next) {x:Int} (hx:x∈0 :: f.ids) (axis:Int) {y:Int} (hy:y∈axisW f axis x):y∈0 :: f.ids:=by
 have hb:∀ z,z∈besW f x→z∈0 :: f.ids:=fun z hz=>by
  unfold besW at hz
  split at hz
  ·simp at hz
  ·rename_i h0
   have hxm:x∈f.ids:=(List.mem_cons.1 hx).resolve_left h0
   exact zD0 h (zBD h hxm).2 hz
 unfold axisW at hy
 split at hy
 ·exact zD0 h hx hy
 split at hy
 ·exact zDE hy
 split at hy
 ·rcases List.mem_cons.1 hy with rfl | hy
  ·exact hx
  ·exact zDE hy
 split at hy
 ·exact zJD (List.mem_of_mem_take hy)
 split at hy
 ·exact zJD hy
 split at hy
 ·rw [List.mem_singleton.1 hy];exact hx
 split at hy
 ·simp at hy
 split at hy
 ·exact hb y (List.mem_of_mem_drop hy)
 ·exact hb y (List.mem_of_mem_take (List.mem_reverse.1 hy))
theorem zF5 (h:InvF f next) {x:Int} (hx:x∈0 :: f.ids) (axis:Int):(axisW f axis x).length≤1002:=by
 have hc:=h.cnt
 have h1:=zB7 h hx
 have h2:=zIF f x
 have h3:=zLt f x
 have hb:(besW f x).length≤1001:=by
  unfold besW
  split
  ·simp
  ·rename_i h0
   have hxm:x∈f.ids:=(List.mem_cons.1 hx).resolve_left h0
   have:=zB7 h (zBD h hxm).2
   omega
 unfold axisW
 split
 ·omega
 split
 ·omega
 split
 ·rw [List.length_cons];omega
 split
 ·rw [List.length_take];omega
 split
 ·omega
 split
 ·simp
 split
 ·simp
 split
 ·rw [List.length_drop];omega
 ·rw [List.length_reverse,List.length_take];omega
theorem zD7 (f:Fo) (p:PredD) (many:Nat):∀ (n:Nat) (l:List Int) (y:Int),y∈leftW f p many n l→y∈l
 | _,[],_,h=>by simp [leftW] at h
 | n,x :: l,y,h=>by
  rw [leftW] at h
  split at h
  ·rcases List.mem_cons.1 h with rfl | h
   ·exact List.mem_cons_self
   ·exact List.mem_cons_of_mem _ (zD7 f p many _ l y h)
  ·exact List.mem_cons_of_mem _ (zD7 f p many _ l y h)
theorem zD6 (f:Fo) (p:PredD) (many:Nat):∀ (n:Nat) (l:List Int),(leftW f p many n l).length≤l.length
 | _,[]=>by simp [leftW]
 | n,x :: l=>by
  rw [leftW];have:=zD6 f p many (n+1) l
  split
  ·simp only [List.length_cons];omega
  ·simp only [List.length_cons];omega
theorem zGQ (f:Fo) (p:PredD) (many:Nat):∀ (a:List Int) (n:Nat) (b:List Int),leftW f p many n (a++b)=leftW f p many n a++leftW f p many (n+a.length) b
 | [],n,b=>rfl
 | x :: a,n,b=>by
  rw [List.cons_append,leftW,leftW,zGQ f p many a (n+1) b,List.length_cons,show n+1+a.length=n+(a.length+1) by omega]
  split <;> rfl
theorem zE3 (f:Fo):∀ (a b:List PredD) (l:List Int),predsW f (a++b) l=predsW f b (predsW f a l)
 | [],_,_=>rfl
 | p :: a,b,l=>by rw [List.cons_append,predsW,predsW,zE3 f a b]
theorem zDO (f:Fo):∀ (ps:List PredD) (l:List Int),(predsW f ps l).length≤l.length
 | [],_=>Nat.le_refl _
 | p :: ps,l=>Nat.le_trans (zDO f ps _) (zD6 f p _ 0 l)
theorem zDP (f:Fo):∀ (ps:List PredD) (l:List Int) (y:Int),y∈predsW f ps l→y∈l
 | [],_,_,h=>h
 | p :: ps,l,y,h=>zD7 f p _ 0 l y (zDP f ps _ y h)
def StepI (N Z t:Nat) (s:StepD) (A:Option Addr) (c:Nat) (w wr:World) (l:List Int):Prop :=
 ∃ A' c',wr.heap[N+2]? = some (.cells #[.slice A' l.length c'] 32 (0,0))∧intRow wr (.slice A' l.length c') l∧(∀ b,(Value.slice A' l.length c').ownBlock=some b→N+3≤b)∧wr.heap[N]? = some (.cells #[treeI t] 82 (0,0)) ∧
  wr.heap[N+1]? = some (.cells #[.int .i64 s.axis,.int .i64 s.test,.string ⟨s.name.toArray⟩,.slice A s.preds.length c] 45 (0,0))∧wr.heap[Z]? = some (.deferred (some []))∧Below w.heap.size w wr
def stepF (f:Fo) (s:StepD) (y:Int):Bool:=testW s (entW f y).d
theorem zKR (h:TreeM M t f next w) {x:Int} (hx:x∈0 :: f.ids) (s:StepD) (A:Option Addr) (c:Nat) (hA:PredsAt w w.heap.size A s.preds) (hl:s.preds.length≤1000000) :
  Calls Tryz.prog 34 #[.agg #[treeI t],.agg #[.int .i64 s.axis,.int .i64 s.test,.string ⟨s.name.toArray⟩,.slice A s.preds.length c],.int .i64 x] w fun e w'=>∃ A' c',e=.returned (.slice A' (stepW f s x).length c')∧intRow w' (.slice A' (stepW f s x).length c') (stepW f s x)∧Below w.heap.size w w' ∧
   ∀ b,(Value.slice A' (stepW f s x).length c').ownBlock=some b→w.heap.size≤b:=by
 have HI:=Lib.hid h.inv
 have HTW:=Lib.hid h
 have HX:=Lib.hid hx
 have HA:=Lib.hid hA
 have hl0:(0:Int)≤(s.preds.length:Int):=by omega
 have hl1:(s.preds.length:Int)≤1000000:=by omega
 obtain ⟨N,hN⟩:∃ N,Hid (w.heap.size=N):=⟨_,rfl⟩
 obtain ⟨xs,hxs⟩:∃ xs,Hid (axisW f s.axis x=xs):=⟨_,rfl⟩
 have HXL:Hid (xs.length≤1002):=by rw [← hxs.out];exact zF5 h.inv hx s.axis
 have HXM:Hid (∀ y∈xs,y∈0 :: f.ids):=fun y hy=>zF6 HI.out hx s.axis (by rw [hxs.out];exact hy)
 obtain ⟨w1,hw1⟩:∃ w1,Hid (w1=((w.alloc (.cells #[.iface 24 (.pointer (some ⟨t,0,none⟩))] 82)).alloc (.cells #[.int .i64 s.axis,.int .i64 s.test,.string ⟨s.name.toArray⟩,.slice A s.preds.length c] 45)).alloc (.cells #[.slice none 0 0] 32)):=⟨_,rfl⟩
 have hb1:Below w.heap.size w w1:=by rw [hw1.out];exact (((Below.refl _ w).alloc (Nat.le_refl _) _).alloc (by simp) _).alloc (by simp;omega) _
 have hz1:w1.heap.size=N+3:=by rw [hw1.out,← hN.out];simp
 have HX1:Hid (w1.heap[N]? = some (.cells #[treeI t] 82 (0,0))):=by
  show _=_
  rw [hw1.out,← hN.out];exact (Below.heap_alloc _ _ _ (by simp;omega)).trans ((Below.heap_alloc _ _ _ (by simp)).trans (heap_alloc_new w _))
 have HY1:Hid (w1.heap[N+1]? = some (.cells #[.int .i64 s.axis,.int .i64 s.test,.string ⟨s.name.toArray⟩,.slice A s.preds.length c] 45 (0,0))):=by
  show _=_
  rw [hw1.out,← hN.out];refine (Below.heap_alloc _ _ _ (by simp)).trans ?_
  have:=heap_alloc_new (w.alloc (.cells #[.iface 24 (.pointer (some ⟨t,0,none⟩))] 82)) (.cells #[.int .i64 s.axis,.int .i64 s.test,.string ⟨s.name.toArray⟩,.slice A s.preds.length c] 45)
  simpa using this
 have HZ1':Hid (w1.heap[N+2]? = some (.cells #[.slice none 0 0] 32 (0,0))):=by
  show _=_
  rw [hw1.out,← hN.out];have:=heap_alloc_new ((w.alloc (.cells #[.iface 24 (.pointer (some ⟨t,0,none⟩))] 82)).alloc (.cells #[.int .i64 s.axis,.int .i64 s.test,.string ⟨s.name.toArray⟩,.slice A s.preds.length c] 45)) (.cells #[.slice none 0 0] 32)
  simpa using this
 have HB1:=Lib.hid hb1
 have HZ1:=Lib.hid hz1
 have HT1:=Lib.hid (h.below hb1)
 have f1:=zAA HX1.out 0 _ rfl
 have f2:w1.cell? ⟨N+1,0,none⟩=some (.int .i64 s.axis):=zAA HY1.out 0 _ rfl
 unfold treeI at f1;rw [hw1.out,← hN.out] at f1 f2;have HML:Hid (∀ b,M b→b<N):=fun b hb=>by have:=HTW.out.lt hb;have:=hN.out;omega
 clear h hx hA hl hb1 hz1;refine callsIn_wide.1 (callsIn_of_wp_marks (n:=0) Tryz.func34 rfl trivial ?_ rfl)
 simp only [Tryz.ntmps34,List.size_toArray,List.length_cons,List.length_nil,Nat.reduceAdd,Nat.reduceSub,Array.replicate_succ,Array.replicate_zero,List.push_toArray,List.append_toArray,List.nil_append,List.cons_append];unfold treeI
 gi_wp2
 rw [← hw1.out];clear f1 f2;refine ⟨trivial,rfl,?_⟩
 refine (callsIn_wide.2 (zKQ HT1.out HX.out s.axis)).mono ?_
 rw [hxs.out];rintro e w2 ⟨gf,lb,D,E,rfl,eg,hit,hb2,hDl,hED,hDM,hEM⟩;have HIT:=Lib.hid hit
 have HEG:=Lib.hid eg
 have HDL:=Lib.hid hDl
 have HED:=Lib.hid hED
 have HDM:=Lib.hid hDM
 have HEM:=Lib.hid hEM
 have HT2:=Lib.hid (HT1.out.below hb2)
 have HZ2:Hid (N+3≤w2.heap.size):=by have:=HZ1.out;have:=hb2.size;show _≤_;omega
 have HB2:Hid (Below w.heap.size w w2):=HB1.out.trans (hb2.mono HB1.out.size)
 have HX2:Hid (w2.heap[N]? = some (.cells #[treeI t] 82 (0,0))):=(hb2.block _ (by have:=HZ1.out;omega)).trans HX1.out
 have HY2:Hid (w2.heap[N+1]? = some (.cells #[.int .i64 s.axis,.int .i64 s.test,.string ⟨s.name.toArray⟩,.slice A s.preds.length c] 45 (0,0))):=(hb2.block _ (by have:=HZ1.out;omega)).trans HY1.out
 have HC2:Hid (w2.heap[N+2]? = some (.cells #[.slice none 0 0] 32 (0,0))):=(hb2.block _ (by have:=HZ1.out;omega)).trans HZ1'.out
 have HEN:Hid (∀ b,E b→N+3≤b∧b<w2.heap.size):=fun b hb=>⟨by have:=hEM b hb;have:=HZ1.out;omega,hDl b (hED b hb)⟩
 clear hit eg hDl hED hDM hEM hb2;rw [hN.out]
 gi_wp2
 refine zE8 (gf:=gf) (lb:=lb) rfl HEG.out
  HIT.out HED.out (fun b hb=>⟨HDL.out b hb,rfl⟩) (Nat.le_refl _) (fun _=>rfl) (fun b=>b=N+2) (fun b hb=>⟨?clt,?cnd⟩)
  (fun i Fq V=>BoxRow N (N+2) 32 3 1 ((xs.take i).filter (stepF f s)).length (((xs.take i).filter (stepF f s)).map (Value.int .i64)) Fq V∧GrowsE E (fun b=>b=N+2) Fq w2 V)
  (fun c Fq V=>False)
  ?sI ?sX ?start
  (fun y=>{ tmps:=#[Value.agg #[Value.iface 24 (Value.pointer (some ⟨t,0,none⟩))],Value.agg #[Value.int .i64 s.axis,Value.int .i64 s.test,Value.string ⟨s.name.toArray⟩,Value.slice A s.preds.length c],Value.int .i64 x,Value.pointer (some ⟨N,0,none⟩),Value.pointer (some ⟨N+1,0,none⟩),undef,Value.slice none 0 0,Value.pointer (some ⟨N+2,0,none⟩),Value.int .i64 y,undef,undef,undef,undef,undef,Value.agg #[Value.iface 24 (Value.pointer (some ⟨t,0,none⟩))],Value.pointer (some ⟨N+1,0,none⟩),Value.int .i64 s.axis,Value.int .i64 x,Value.func (.func gf) #[] lb,Value.int .i64 y,undef,undef,undef,undef,undef,undef,undef,undef,undef,undef,undef,undef,undef,undef,undef,undef,undef,undef,undef,undef,undef,undef,undef,undef,undef,undef,undef,undef,undef,undef,undef,undef,undef,undef,undef,undef,undef,undef],defers:=[] }) ?assign ?body ?done ?stop
 case clt=>have:=HZ2.out;omega
 case cnd =>
  intro hd;rw [hb] at hd;rcases HDM.out _ hd with h | h
  ·have:=HML.out _ h;omega
  ·have:=HZ1.out;omega
 case sI =>
  rintro i Fq A' B' ⟨r1,r2⟩ hAB;have hFE:∀ b,Fq b → ¬ E b:=fun b hb he=>by
   have:=HEN.out b he
   rcases r2.2 b hb with h | h
   ·omega
   ·omega
  exact ⟨BoxRow.stabE Fq hFE A' B' r1 hAB,zG9 r2 hAB⟩
 case sX=>rintro c Fq A' B' h _;exact h
 case start=>exact ⟨⟨_,HC2.out,⟨by simp,.inl ⟨rfl,by simp⟩⟩,rfl,fun b h=>by simp [Value.ownBlock] at h⟩,.of (Grows.refl _ _)⟩
 case assign =>
  intro l' y W' K hK
  dsimp only [encI]
  gi_wp2
  exact hK
 case stop=>rintro c W5 ⟨Fq,_,_,hf,_⟩;exact hf.elim
 case body =>
  rintro l' i y Fq V hy ⟨⟨v,hb,hrow,hf,hv⟩,hg⟩ hV hF _ _ _;have htV:TreeM M t f next V:=HT2.out.keep (fun b hb=>hg.1.block b (HT2.out.lt hb) (fun e=>by
   have:=HML.out _ hb
   rcases e with e | e
   ·omega
   ·have:=(HEN.out b e).1;omega)) hg.1.size
  have hkV:∀ b,b<N+3→b≠N+2→V.heap[b]? = w2.heap[b]?:=fun b h1 h2=>hg.1.block b (by have:=HZ2.out;omega) (fun e=>by
   rcases e with e | e
   ·omega
   ·have:=(HEN.out b e).1;omega)
  have hxV:=(hkV N (by omega) (by omega)).trans HX2.out
  have hyV:=(hkV (N+1) (by omega) (by omega)).trans HY2.out
  obtain ⟨T,hT⟩:∃ T,Hid (stepF f s y=T):=⟨_,rfl⟩
  have hfil:(xs.take (i+1)).filter (stepF f s)=(xs.take i).filter (stepF f s)++if T then [y] else []:=by
   rw [List.take_add_one,hy,List.filter_append];simp only [Option.toList_some,List.filter_cons,List.filter_nil,hT.out]
  have hfl:((xs.take i).filter (stepF f s)).length≤1002:=by
   have:=List.length_filter_le (stepF f s) (xs.take i)
   have:=HXL.out
   rw [List.length_take] at *;omega
  obtain ⟨L,hL⟩:∃ L,Hid ((xs.take i).filter (stepF f s)=L):=⟨_,rfl⟩
  rw [hL.out] at hrow hfil hfl;have HFIL:=Lib.hid hfil
  have HFL:=Lib.hid hfl
  have HTV:=Lib.hid htV
  have HYC:=Lib.hid (HXM.out y (List.mem_of_getElem? hy))
  have HG:=Lib.hid hg
  have HFV:=Lib.hid hF
  have HBV:=Lib.hid hb
  have HROW:=Lib.hid hrow
  have HFB:=Lib.hid hf
  have HVB:=Lib.hid hv
  have HSW:Hid (∀ U:World,Below V.heap.size V U→U.cell? ⟨N,0,none⟩=some (.iface 24 (.pointer (some ⟨t,0,none⟩)))∧U.cell? ⟨N+1,0,none⟩=some (.int .i64 s.axis)∧U.cell? ⟨N+1,1,none⟩=some (.int .i64 s.test)∧U.cell? ⟨N+1,2,none⟩=some (.string ⟨s.name.toArray⟩)∧U.cell? ⟨N+1,3,none⟩=some (.slice A s.preds.length c)):=fun U hU=>by
   have h1:=(hU.block N (Array.getElem?_eq_some_iff.1 hxV).1).trans hxV
   have h2:=(hU.block (N+1) (Array.getElem?_eq_some_iff.1 hyV).1).trans hyV
   exact ⟨zAA h1 0 _ rfl,zAA h2 0 _ rfl,zAA h2 1 _ rfl,zAA h2 2 _ rfl,zAA h2 3 _ rfl⟩
  have hbd:Below V.heap.size V V.drew:=⟨rfl,rfl,rfl,Nat.le_refl _,fun _ _=>rfl⟩
  clear htV hkV hxV hyV hfil hfl hg hF hb hrow hf hv hV hy
  gi_wp2
  refine zB0 (fun U=>U.cell? ⟨N,0,none⟩=some (.iface 24 (.pointer (some ⟨t,0,none⟩)))∧U.cell? ⟨N+1,0,none⟩=some (.int .i64 s.axis)∧U.cell? ⟨N+1,1,none⟩=some (.int .i64 s.test)∧U.cell? ⟨N+1,2,none⟩=some (.string ⟨s.name.toArray⟩)∧U.cell? ⟨N+1,3,none⟩=some (.slice A s.preds.length c)) (by kernel_rfl) (by kernel_rfl) (HSW.out V.drew hbd) (fun hHeld=>?_)
  refine tkv 0 (h:=tkv 1 (h:=tkv 2 (h:=?_)))
  obtain ⟨V2,hV2⟩:∃ V2,Hid (V.drew=V2):=⟨_,rfl⟩
  rw [hV2.out] at hbd hHeld ⊢;have HBD:=Lib.hid hbd
  have HTV2:=Lib.hid (HTV.out.below hbd)
  clear hbd;refine rdy 3 (fun K hK=>?_)
  go_simp
  refine (zCL HTV2.out HYC.out).mono ?_
  rintro e3 V3 ⟨A3,c3,rfl,_,hb3⟩;have HB3:Hid (Below V.heap.size V V3):=HBD.out.trans (hb3.mono HBD.out.size)
  clear hb3;refine hK.out _ _ (HSW.out V3 HB3.out) (fun hHeld=>?_)
  clear hK K
  try go_frame
  refine rdy 4 (fun K hK=>?_)
  go_simp
  refine (zKS s A s.preds.length c f y A3 c3 V3).mono ?_
  rintro e4 V4 ⟨rfl,hb4⟩;have HB4:Hid (Below V.heap.size V V4):=HB3.out.trans (hb4.mono HB3.out.size)
  clear hb4;refine hK.out _ _ (HSW.out V4 HB4.out) (fun hHeld=>?_)
  clear hK K
  try go_frame
  refine wpAnyH_done (by kernel_rfl) ?_ _
  clear hHeld
  dsimp only [onlyN]
  rw [show testW s (entW f y).d=T from hT.out]
  have HF4:Hid (∀ b,Fq b→b<V4.heap.size):=fun b hb=>Nat.lt_of_lt_of_le (HFV.out b hb) HB4.out.size
  have HGV:Hid (Grows Fq Fq V V4):=Grows.of_below HB4.out
  have HBX:Hid (BoxRow N (N+2) 32 3 1 L.length (L.map (Value.int .i64)) Fq V4):=BoxRow.stab (M:=0) Fq V V4 ⟨v,HBV.out,HROW.out,HFB.out,HVB.out⟩ (Keep.of_below HB4.out)
  cases T with
  | false =>
   gi_wp2
   refine ⟨Fq,HGV.out,HF4.out,?_,HG.out.grow HGV.out⟩
   have:=HFIL.out
   simp only [Bool.false_eq_true,if_false,List.append_nil] at this;rw [this];exact HBX.out
  | true =>
   have hnew:=HFIL.out
   simp only [if_true] at hnew;have HNEW:=Lib.hid hnew
   obtain ⟨v4,hb4,hrow4,hf4,hv4⟩:=HBX.out
   have fb:=zAA hb4 0 _ rfl
   obtain ⟨Wa,hWa⟩:∃ Wa,Hid (Wa=V4.alloc (.cells #[.int .i64 y] 3)):=⟨_,rfl⟩
   have hba:Below V4.heap.size V4 Wa:=by rw [hWa.out];exact (Below.refl _ V4).alloc (Nat.le_refl _) _
   have hXa:Wa.heap[V4.heap.size]? = some (.cells #[.int .i64 y] 3 (0,0)):=by rw [hWa.out];exact heap_alloc_new V4 _
   have hrowa:Wa.ownsRow 0 3 1 v4 L.length (L.map (Value.int .i64)):=zAC hrow4 fun b hb=>hba.block b (zAJ hrow4 hb)
   obtain ⟨v',w',hr,hrow',hg',hf'⟩:=zAy (P:=Tryz.prog) Wa 32 32 3 (.int .i64 0) 1 8 Tryz.underlying32 zBf rfl (by decide) (by decide) v4 L.length _ hrowa ⟨V4.heap.size,0,none⟩ 1 1 [.int .i64 y] (by decide) rfl (by
    intro j u0 hj;rw [zAI];cases j with
    | zero=>simp at hj;subst hj;exact zAA hXa 0 _ rfl
    | succ j=>simp at hj) (by intro u hu;simp at hu;subst hu;rfl) (by have:=HFL.out;omega) (by decide)
   rw [hWa.out] at hr;obtain ⟨pa,pn,pc,rfl⟩:∃ pa pn pc,v'=.slice pa pn pc:=by
    rcases hrow'.2 with ⟨h,_⟩ | ⟨_,_,_,h,_⟩
    ·exact ⟨_,_,_,h⟩
    ·exact ⟨_,_,_,h⟩
   have hvb:v4.ownBlock≠some (N+2):=zAT hrow4 hb4 (fun cur h=>by injection h with _ h _;exact absurd h (by decide))
   have hfin:=zFO (e:=3) (size:=1) (n:=L.length+1) (xs:=(L++[y]).map (Value.int .i64)) hb4 hf4 hv4 HF4.out (by have:=HB4.out.size;have:=HG.out.1.size;have:=HZ2.out;omega) (by decide) hba hg' hf' hvb (by
    rw [List.map_append];exact hrow')
   have hbw:w'.heap[N+2]? = some (.cells #[v4] 32 (0,0)):=(hg'.block (N+2) (Nat.lt_of_lt_of_le (HF4.out _ hf4) hba.size) (fun h=>hvb h.symm)).trans ((hba.block (N+2) (HF4.out _ hf4)).trans hb4)
   have fw:=zAA hbw 0 _ rfl
   have HBW:=Lib.hid hbw
   have fw2:=zAV hbw 0
   have HFIN:=Lib.hid hfin
   clear hb4 hrow4 hf4 hv4 hba hXa hrowa hrow' hg' hf' hvb hfin hnew hbw
   gi_wp2_with (gi_at_builtin;refine zA8 _ rfl _ _ 32 rfl v4 (.slice (some ⟨V4.heap.size,0,none⟩) 1 1) (by simp [Act.eval]) (by simp [Act.eval]) hr ?_)
   rw [zCe HBW.out];obtain ⟨Fp',g1,g2,g3⟩:=HFIN.out
   refine ⟨Fp',HGV.out.trans g1,g2,?_,(HG.out.grow HGV.out).grow g1⟩
   rw [HNEW.out,List.length_append];exact g3
 case done =>
  rintro W5 ⟨Fq,r1,r2,⟨⟨v,hb,hrow,hf,hv⟩,hg⟩,qn⟩ hK5;rw [List.take_length] at hrow;obtain ⟨L0,hL0⟩:∃ L,Hid (xs.filter (stepF f s)=L):=⟨_,rfl⟩
  rw [hL0.out] at hrow;obtain ⟨A5,c5,hv5,_⟩:=zAR hrow
  have hl5:(L0.map (Value.int .i64)).length=L0.length:=List.length_map _
  rw [hv5] at hb hrow hv;have HB5:Hid (Below w.heap.size w W5):=by
   have hb2:=HB2.out
   have hn:=hN.out
   refine ⟨hg.1.os.trans hb2.os,hg.1.tape.trans hb2.tape,hg.1.output.trans hb2.output,Nat.le_trans hb2.size hg.1.size,fun b hb=>?_⟩
   exact (hg.1.block b (by have:=hb2.size;omega) (fun e=>by
    rcases e with e | e
    ·omega
    ·have:=(HEN.out b e).1;omega)).trans (hb2.block b hb)
  have hkV:∀ b,b<N+3→b≠N+2→W5.heap[b]? = w2.heap[b]?:=fun b h1 h2=>hg.1.block b (by have:=HZ2.out;omega) (fun e=>by
   rcases e with e | e
   ·omega
   ·have:=(HEN.out b e).1;omega)
  have HX5:Hid (W5.heap[N]? = some (.cells #[treeI t] 82 (0,0))):=(hkV N (by omega) (by omega)).trans HX2.out
  have HY5:Hid (W5.heap[N+1]? = some (.cells #[.int .i64 s.axis,.int .i64 s.test,.string ⟨s.name.toArray⟩,.slice A s.preds.length c] 45 (0,0))):=(hkV (N+1) (by omega) (by omega)).trans HY2.out
  have HBX5:=Lib.hid hb
  have HR5:Hid (intRow W5 (.slice A5 L0.length c5) L0):=hrow
  have HV5:Hid (∀ b,(Value.slice A5 L0.length c5).ownBlock=some b→N+3≤b):=fun b hb'=>by
   have h1:=(hv b hb').2
   have h2:=zAT hrow hb (fun cur h=>by injection h with _ h _;exact absurd h (by decide))
   have h3:=zAT hrow HX5.out (fun cur h=>by injection h with _ h _;exact absurd h (by decide))
   have h4:=zAT hrow HY5.out (fun cur h=>by injection h with _ h _;exact absurd h (by decide))
   rw [hb'] at h2 h3 h4;have n2:b≠N+2:=fun e=>h2 (by rw [e])
   have n3:b≠N:=fun e=>h3 (by rw [e])
   have n4:b≠N+1:=fun e=>h4 (by rw [e])
   omega
  have HK5:=Lib.hid hK5
  have HLL:Hid (∀ k,(predsW f (s.preds.take k) L0).length≤1002):=fun k=>by
   have h1:=zDO f (s.preds.take k) L0
   have h2:=List.length_filter_le (stepF f s) xs
   rw [hL0.out] at h2;have:=HXL.out
   omega
  have HLM:Hid (∀ k,∀ y∈predsW f (s.preds.take k) L0,y∈0 :: f.ids):=fun k y hy=>by
   have h1:=zDP f _ _ y hy
   rw [← hL0.out] at h1;exact HXM.out y (List.mem_filter.1 h1).1
  have d1:W5.cell? ⟨N+1,3,none⟩=some (.slice A s.preds.length c):=zAA HY5.out 3 _ rfl
  obtain ⟨Z,hZ⟩:∃ Z,Hid (w2.heap.size=Z):=⟨_,rfl⟩
  rw [hZ.out] at HK5 ⊢;have HZN:Hid (N+3≤Z):=by have:=HZ2.out;rw [hZ.out] at this;exact this
  clear r1 r2 hb hrow hf hv hg qn hK5 hkV hl5
  gi_wp2
  refine wpIn_wide.2 ?_
  go_loopw [32] (fun i wr=>∃ k:Nat,i=.int .i64 (k:Int)∧k≤s.preds.length∧Hid (StepI N Z t s A c w wr (predsW f (s.preds.take k) L0))) (fun i _=>s.preds.length-(intOf i).toNat)
  case atStart=>exact ⟨0,rfl,Nat.zero_le _,⟨A5,c5,HBX5.out,HR5.out,HV5.out,HX5.out,HY5.out,HK5.out,HB5.out⟩⟩
  case round =>
   obtain ⟨k,rfl,hk,hst⟩:=hrel
   obtain ⟨A',c',e1,e2,e3,e4,e5,e6,e7⟩:=hst.out
   have k0:(0:Int)≤(k:Int):=by omega
   by_cases hkl:k<s.preds.length
   ·have k1:(k:Int)<(s.preds.length:Int):=by omega
    obtain ⟨p,hp⟩:∃ p,Hid (s.preds[k]? = some p):=⟨s.preds[k],List.getElem?_eq_getElem _⟩
    obtain ⟨ad,hAd,had,hcl⟩:=HA.out (by omega)
    subst hAd;obtain ⟨p0,p1,p2,p3⟩:=hcl k p hp.out
    have hbk:(ad.add (k * 4)).block<w.heap.size:=by rw [zAD];exact had
    have c0:=(e7.cell (p:=ad.add (k * 4)) hbk).trans p0
    have c1:=(e7.cell (p:=⟨(ad.add (k * 4)).block,(ad.add (k * 4)).off+1,none⟩) hbk).trans p1
    have c2:=(e7.cell (p:=⟨(ad.add (k * 4)).block,(ad.add (k * 4)).off+2,none⟩) hbk).trans p2
    have c3:=(e7.cell (p:=⟨(ad.add (k * 4)).block,(ad.add (k * 4)).off+3,none⟩) hbk).trans p3
    obtain ⟨l,hl⟩:∃ l,Hid (predsW f (s.preds.take k) L0=l):=⟨_,rfl⟩
    have HE1:=Lib.hid e1
    have HE2:=Lib.hid e2
    have HE3:=Lib.hid e3
    have HE4:=Lib.hid e4
    have HE5:=Lib.hid e5
    have HE6:=Lib.hid e6
    have HE7:=Lib.hid e7
    clear e1 e2 e3 e4 e5 e6 e7 p0 p1 p2 p3 hcl hbk d1;obtain ⟨w6,hw6⟩:∃ w6,Hid (w6=wr.alloc (.cells #[.int .i64 p.kind,.int .i64 p.num,.string ⟨p.name.toArray⟩,.string ⟨p.value.toArray⟩] 102)):=⟨_,rfl⟩
    obtain ⟨Y,hY⟩:∃ Y,Hid (wr.heap.size=Y):=⟨_,rfl⟩
    have hb6:Below wr.heap.size wr w6:=by rw [hw6.out];exact (Below.refl _ wr).alloc (Nat.le_refl _) _
    have HP6:Hid (w6.heap[Y]? = some (.cells #[.int .i64 p.kind,.int .i64 p.num,.string ⟨p.name.toArray⟩,.string ⟨p.value.toArray⟩] 102 (0,0))):=by show _=_;rw [hw6.out,← hY.out];exact heap_alloc_new wr _
    have hz6:w6.heap.size=Y+1:=by rw [hw6.out,← hY.out];simp
    have HZ6:=Lib.hid hz6
    have hk6:∀ b,b<Y→w6.heap[b]? = wr.heap[b]?:=fun b hb=>hb6.block b (by rw [hY.out];exact hb)
    have hyn:∀ {b:Nat} {o:Obj},wr.heap[b]? = some o→b<Y:=fun h=>by rw [← hY.out];exact (Array.getElem?_eq_some_iff.1 h).1
    have HB6:Hid (Below w.heap.size w w6):=HE7.out.trans (hb6.mono HE7.out.size)
    have HX6:Hid (w6.heap[N]? = some (.cells #[treeI t] 82 (0,0))):=(hk6 _ (hyn HE4.out)).trans HE4.out
    have HY6:Hid (w6.heap[N+1]? = some (.cells #[.int .i64 s.axis,.int .i64 s.test,.string ⟨s.name.toArray⟩,.slice (some ad) s.preds.length c] 45 (0,0))):=(hk6 _ (hyn HE5.out)).trans HE5.out
    have HK6:Hid (w6.heap[Z]? = some (.deferred (some []))):=(hk6 _ (hyn HE6.out)).trans HE6.out
    have HL6:Hid (w6.heap[N+2]? = some (.cells #[.slice A' l.length c'] 32 (0,0))):=(hk6 _ (hyn HE1.out)).trans (by rw [← hl.out];exact HE1.out)
    have HR6:Hid (intRow w6 (.slice A' l.length c') l):=zAC (by rw [← hl.out];exact HE2.out) fun b hb=>hk6 b (by rw [← hY.out];exact zAJ HE2.out (by rw [hl.out];exact hb))
    have HNY:Hid (N+3≤Y∧Z<Y):=by
     have:=hyn HE6.out
     have:=HZN.out
     exact ⟨by omega,by omega⟩
    have hll:l.length≤1002:=by rw [← hl.out];exact HLL.out k
    have HLM6:Hid (∀ y∈l,y∈0 :: f.ids):=fun y hy=>HLM.out k y (by rw [hl.out];exact hy)
    have l0:(0:Int)≤(l.length:Int):=by omega
    have l1:(l.length:Int)≤1002:=by omega
    have HNX:Hid (predsW f (s.preds.take (k+1)) L0=leftW f p l.length 0 l):=by
     show _=_
     rw [List.take_add_one,hp.out,Option.toList_some,zE3,hl.out]
     rfl
    have hg6:w6.cell? ⟨N+2,0,none⟩=some (.slice A' l.length c'):=zAA HL6.out 0 _ rfl
    clear hb6 hz6 hk6 hyn
    go_upto_region 9 with (fail)
    rw [← hw6.out,hY.out];clear c0 c1 c2 c3
    go_wp2_with fail;clear hg6
    go_loopw [11,38] (fun o i wv=>∃ (j:Nat) (A2:Option Addr) (c2:Nat) (L2:List Int),j≤l.length∧i=.int .i64 (j:Int)∧o=.slice A2 L2.length c2∧Hid (L2=leftW f p l.length 0 (l.take j))∧Hid (intRow wv (.slice A2 L2.length c2) L2) ∧
     Hid (∀ b,(Value.slice A2 L2.length c2).ownBlock=some b→w6.heap.size≤b)∧Hid (Below w6.heap.size w6 wv)) (fun _ i _=>l.length-(intOf i).toNat)
    case atStart=>exact ⟨0,none,0,[],Nat.zero_le _,rfl,rfl,rfl,⟨by simp,.inl ⟨rfl,rfl⟩⟩,fun b hb=>by simp [Value.ownBlock] at hb,Below.refl _ _⟩
    case round =>
     obtain ⟨j,A2,c2,L2,hj,rfl,rfl,hL2,hrow2,hfr2,hb7⟩:=hrel
     have j0:(0:Int)≤(j:Int):=by omega
     have hx7:=(hb7.out.block N (Array.getElem?_eq_some_iff.1 HX6.out).1).trans HX6.out
     have hy7:=(hb7.out.block (N+2) (Array.getElem?_eq_some_iff.1 HL6.out).1).trans HL6.out
     have hp7:=(hb7.out.block Y (Array.getElem?_eq_some_iff.1 HP6.out).1).trans HP6.out
     have hL2l:L2.length≤1002:=by
      rw [hL2.out];have:=zD6 f p l.length 0 (l.take j)
      rw [List.length_take] at this;omega
     by_cases hjl:j<l.length
     ·have j1:(j:Int)<(l.length:Int):=by omega
      obtain ⟨y,hy⟩:∃ y,Hid (l[j]? = some y):=⟨l[j],List.getElem?_eq_getElem _⟩
      obtain ⟨g,hgA⟩:∃ g,A'=some ⟨g,0,none⟩:=by
       rcases HR6.out.2 with ⟨_,h⟩ | ⟨g,cap,cur,h,_⟩
       ·omega
       ·injection h with h _ _;exact ⟨g,h⟩
      subst hgA;have hr7:intRow wr (.slice (some ⟨g,0,none⟩) l.length c') l:=zAC HR6.out fun b hb=>hb7.out.block b (zAJ HR6.out hb)
      have ck:=zAd hr7 j (.int .i64 y) (by rw [List.getElem?_map,hy.out];rfl)
      have f1:=zAA hx7 0 _ rfl
      unfold treeI at f1;have f2:=zAA hy7 0 _ rfl
      have g0:=zAA hp7 0 _ rfl
      have g1:=zAA hp7 1 _ rfl
      have g2:=zAA hp7 2 _ rfl
      have g3:=zAA hp7 3 _ rfl
      obtain ⟨K,hK⟩:∃ K,Hid (keepsW f p y j l.length=K):=⟨_,rfl⟩
      have HT7:=Lib.hid (HTW.out.below (HB6.out.trans (hb7.out.mono HB6.out.size)))
      have HSN:Hid (leftW f p l.length 0 (l.take (j+1))=L2++if K then [y] else []):=by
       show _=_
       rw [List.take_add_one,hy.out,zGQ,← hL2.out,List.length_take,Nat.zero_add,Nat.min_eq_left (Nat.le_of_lt hjl),Option.toList_some,leftW,hK.out]
       rfl
      clear hx7 hy7 hp7 hr7
      go_wp2_with fail;refine (zJg HT7.out (HLM6.out y (List.mem_of_getElem? hy.out)) p j l.length (by omega) (by omega)).mono ?_
      rw [hK.out];rintro e w8 ⟨rfl,hb8⟩;have HB8:Hid (Below w6.heap.size w6 w8):=hb7.out.trans (hb8.mono hb7.out.size)
      have HR8:Hid (intRow w8 (.slice A2 L2.length c2) L2):=zAC hrow2.out fun b hb=>hb8.block b (zAJ hrow2.out hb)
      clear hb8 f1 f2 g0 g1 g2 g3 ck;cases K with
      | false =>
       have HN:Hid (L2=leftW f p l.length 0 (l.take (j+1))):=by
        have:=HSN.out
        simp only [Bool.false_eq_true,if_false,List.append_nil] at this;exact this.symm
       go_wp2_with fail
       go_roundw
       case rel=>exact ⟨j+1,A2,c2,L2,by omega,by go_num,rfl,HN.out,HR8.out,hfr2.out,HB8.out⟩
       case measure=>simp [intOf];omega
      | true =>
       have HN:Hid (L2++[y]=leftW f p l.length 0 (l.take (j+1))):=by
        have:=HSN.out
        simp only [if_true] at this;exact this.symm
       obtain ⟨pa,pn,pc,w9,hr9,hpn,hrow9,hg9,hf9⟩:=zAk HR8.out (by omega) y
       subst hpn;have HB9:Hid (Below w6.heap.size w6 w9):=⟨hg9.os.trans HB8.out.os,hg9.tape.trans HB8.out.tape,hg9.output.trans HB8.out.output,Nat.le_trans HB8.out.size hg9.size,fun b hb=>(hg9.block b (Nat.lt_of_lt_of_le hb HB8.out.size) (fun h'=>by have:=hfr2.out b h'.symm;omega)).trans (HB8.out.block b hb)⟩
       have hfr9:∀ b,(Value.slice pa (L2.length+1) pc).ownBlock=some b→w6.heap.size≤b:=fun b hb=>by
        rcases hf9 b hb with h' | h'
        ·exact hfr2.out b h'
        ·have:=HB8.out.size;omega
       have HR9:=Lib.hid hrow9
       have HF9:=Lib.hid hfr9
       clear hrow9 hg9 hf9 hfr9
       go_wp2_with (at_builtin;refine zAK _ rfl _ _ 32 rfl (.slice A2 L2.length c2) (.slice (some ⟨w8.heap.size,0,none⟩) 1 1) (by simp [Act.eval]) (by simp [Act.eval]) hr9 ?_)
       go_roundw
       case rel=>exact ⟨j+1,pa,pc,L2++[y],by omega,by go_num,by simp,HN.out,by show intRow _ _ _;simpa using HR9.out,by show ∀ b,_;simpa using HF9.out,HB9.out⟩
       case measure=>simp [intOf];omega
     ·have hjm:j=l.length:=by omega
      subst hjm;have HFN:Hid (predsW f (s.preds.take (k+1)) L0=L2):=by
       show _=_
       rw [HNX.out,hL2.out,List.take_length]
      have hZN:Z≠N+2:=by have:=HZN.out;omega
      have HS8:Hid (StepI N Z t s (some ad) c w (wr.setCell ⟨N+2,0,none⟩ (.slice A2 L2.length c2)) L2):=by
       have hs6:=HNY.out
       have hz6:=HZ6.out
       refine ⟨A2,c2,Lib.heap_setCell_same (i:=0) hy7 _,?_,fun b hb=>by have:=hfr2.out b hb;omega,?_,?_,?_,?_⟩
       ·exact zAC hrow2.out fun b hb=>Below.heap_setCell _ _ _ _ (by show b≠N+2;have:=hfr2.out b hb;omega)
       ·exact (Below.heap_setCell _ _ _ _ (by show N≠N+2;omega)).trans hx7
       ·exact (Below.heap_setCell _ _ _ _ (by show N+1≠N+2;omega)).trans ((hb7.out.block (N+1) (by omega)).trans HY6.out)
       ·exact (Below.heap_setCell _ _ _ _ hZN).trans ((hb7.out.block Z (by omega)).trans HK6.out)
       ·exact (HB6.out.trans (hb7.out.mono HB6.out.size)).setCell (by show w.heap.size≤N+2;have:=hN.out;omega) _
      have g4:=zAV hy7 0
      have g5:=zAA hy7 0 _ rfl
      clear hx7 hy7 hp7 hZN
      go_wp2_with fail
      go_roundw
      case rel=>exact ⟨k+1,by go_num,by omega,by rw [HFN.out];exact HS8.out⟩
      case measure=>simp [intOf];omega
   ·have hkm:k=s.preds.length:=by omega
    subst hkm;have k1:¬ ((s.preds.length:Int)<(s.preds.length:Int)):=by omega
    have HFN:Hid (predsW f (s.preds.take s.preds.length) L0=stepW f s x):=by
     show _=_
     rw [List.take_length,← hL0.out,← hxs.out]
     rfl
    rw [HFN.out] at e1 e2 e3;have g4:=zAA e1 0 _ rfl
    have HE2:=Lib.hid e2
    have HE3:=Lib.hid e3
    have HE6:=Lib.hid e6
    have HE7:=Lib.hid e7
    clear e1 e2 e3 e4 e5 e6 e7 d1
    go_wp2_with fail
    gi_wp2
    refine zAO [Z] wr (by simp) (fun b hb=>by simp at hb;subst hb;exact HE6.out) (fun w' hw'=>⟨_,results_tmp Tryz.results34 _ _ _,A',c',rfl,?_,?_,?_⟩)
    ·have h1:=HE2.out
     have hne:(Value.slice A' (stepW f s x).length c').ownBlock≠some Z:=zAT h1 HE6.out (fun cur h=>by cases h)
     exact zAC (w':=w') h1 fun b hb=>hw'.block b (zAJ h1 hb) (fun hm=>by simp at hm;exact hne (by rw [hb,hm]))
    ·have h4:=HE7.out
     have hs:=h4.size
     have hz:=HZN.out
     refine ⟨hw'.os.trans h4.os,hw'.tape.trans h4.tape,hw'.output.trans h4.output,Nat.le_trans hs hw'.size,fun b hb=>?_⟩
     exact (hw'.block b (by omega) (fun hm=>by simp at hm;have:=hN.out;omega)).trans (h4.block b hb)
    ·intro b hb
     have:=HE3.out b hb
     have:=hN.out
     omega
end
end
section
open Go.RowKit Go.Shelf
def MapS (w:World) (b:Nat) (S:List Int):Prop :=
 ∃ D,w.ownsMap (H:=Unit) Tryz.prog 3 (plainElem Tryz.prog 3) b S.length D ∧ ∀ id,wfI id→D.atKey (.int .i64 id) (.lit (.int .i64 0))=.lit (.int .i64 (S.count id:Int))
theorem zLc (w:World):(zeroValue 3).run Tryz.prog w=.ok (.int .i64 0) w:=Tryz.zeroValue3 w
theorem MapS.new (w:World):MapS (w.alloc (.map #[] 0)) w.heap.size []:=⟨.map [],World.ownsMap_made _ _ _ _,fun id _=>by simp [DataW.atKey]⟩
theorem MapS.keep {w w':World} {b:Nat} {S:List Int} (h:MapS w b S) (hk:w'.heap[b]? = w.heap[b]?):MapS w' b S:=by
 obtain ⟨D,⟨es,clock,hb,F,hs,hD⟩,hr⟩:=h
 exact ⟨D,⟨es,clock,hk.trans hb,F,hs,hD⟩,hr⟩
theorem MapS.lt {w:World} {b:Nat} {S:List Int} (h:MapS w b S):b<w.heap.size:=by
 obtain ⟨D,⟨es,clock,hb,F,hs,hD⟩,hr⟩:=h
 exact (Array.getElem?_eq_some_iff.1 hb).1
theorem MapS.obj {w:World} {b:Nat} {S:List Int} (h:MapS w b S):∃ es clock,w.heap[b]? = some (.map es clock):=by
 obtain ⟨D,⟨es,clock,hb,F,hs,hD⟩,hr⟩:=h
 exact ⟨_,_,hb⟩
theorem MapS.look {w:World} {b:Nat} {S:List Int} (h:MapS w b S) {id:Int} (hw:wfI id):(Instr.lookup 83 (.map (some b)) (.int .i64 id) false).run Tryz.prog w=.ok (.int .i64 (S.count id:Int)) w:=by
 obtain ⟨D,h,hf⟩:=h
 obtain ⟨c,hr,hc,_⟩:=h.lookup_int zDS Tryz.underlying83 Tryz.underlying3 (zLc w) (zMP hw)
 rw [hf id hw] at hc
 injection hc with hc
 injection hc with _ hc
 rw [hr,hc]
theorem MapS.put {w:World} {b:Nat} {S:List Int} (h:MapS w b S) {id:Int} (hw:wfI id) (hn:S.length<100000000) :
  ∃ w',(Instr.mapUpdate 83 (.map (some b)) (.int .i64 id) (.int .i64 ((S.count id:Int)+1))).run Tryz.prog w=.ok () w'∧MapS w' b (S++[id])∧w.grownBy w' (some b):=by
 obtain ⟨D,h,hf⟩:=h
 have hc:=List.count_le_length (a:=id) (l:=S)
 have hwl:(Lit.int .i64 ((S.count id:Int)+1)).wf=true:=wfI.lit ⟨by omega,by omega⟩
 obtain ⟨w',hr,ho,hg⟩:=h.update zDS Tryz.underlying83 (by unfold maxLen;omega) (zMP hw) (val:=.int .i64 ((S.count id:Int)+1)) (plainElem_int Tryz.underlying3 hwl)
 refine ⟨w',hr,⟨_,by rw [List.length_append];exact ho,fun x hx=>?_⟩,hg⟩
 rw [List.count_append];by_cases e:x=id
 ·subst e
  rw [Maps.atKey_put_same h.isMap zJi _ _];simp
 ·rw [Maps.atKey_put_other (zGS e),hf x hx]
  have:¬ id=x:=fun e'=>e e'.symm
  simp [this]
theorem zDY (W:World) (A:Option Addr) (n c:Nat) (hnc:n≤c) (A':Option Addr) (c':Nat):(Builtin.append_ #[32,32] 32 #[.slice A n c,.slice A' 0 c']).run Tryz.prog W=.ok (.slice A n c) W:=by
 obtain ⟨i0,hi0,hz0,hz1,hz2⟩:=info_parts zBf
 have hf:(Builtin.firstCells i0.size 0 (Value.slice A' 0 c')).run Tryz.prog W=.ok #[] W:=by
  cases A' with
  | none=>exact run_firstCells_none _ _ _ _ _
  | some a=>exact run_firstCells_some W i0.size 0 a 0 c' [] (by simp) (fun j v h=>by simp at h)
 cases A with
 | none=>simp [Builtin.append_,run_underlying Tryz.underlying32,sizeOf,typeInfo,zeroValue,hi0,hz0,Builtin.lenOf,hf,hnc]
 | some a=>simp [Builtin.append_,run_underlying Tryz.underlying32,sizeOf,typeInfo,zeroValue,hi0,hz0,Builtin.lenOf,hf,hnc,storeCells]
theorem zES {W:World} {v:Value} {l m:List Int} (hrow:intRow W v l) (A:Option Addr) (c:Nat) (hm:intRow W (.slice A m.length c) m) (hl0:l.length≤1000000) (hl1:m.length≤1000000) :
  ∃ pa pn pc w',(Builtin.append_ #[32,32] 32 #[v,.slice A m.length c]).run Tryz.prog W=.ok (.slice pa pn pc) w'∧pn=(l++m).length∧intRow w' (.slice pa (l++m).length pc) (l++m)∧W.grownBy w' v.ownBlock ∧
   ∀ b,(Value.slice pa (l++m).length pc).ownBlock=some b→v.ownBlock=some b∨W.heap.size≤b:=by
 obtain ⟨A0,c0,hv0,hn0,_⟩:=zAR hrow
 by_cases h0:0<m.length
 ·obtain ⟨g,hA⟩:∃ g,A=some ⟨g,0,none⟩:=by
   rcases hm.2 with ⟨_,h⟩ | ⟨g,cap,cur,h,_⟩
   ·omega
   ·injection h with h _ _;exact ⟨g,h⟩
  subst hA;obtain ⟨v',w',hr,hrow',hg',hf'⟩:=zAy (P:=Tryz.prog) W 32 32 3 (.int .i64 0) 1 8 Tryz.underlying32 zBf rfl (by decide) (by decide) v _ _ hrow ⟨g,0,none⟩ m.length c (m.map (Value.int .i64)) h0 (by simp) (fun j u hj=>World.ownsRow.cells hm (g:=g) rfl j u hj) (by
   intro u hu;obtain ⟨x,_,rfl⟩:=List.mem_map.1 hu
   rfl) (by omega) (by omega)
  obtain ⟨pa,pc,hv',_⟩:=zAR hrow'
  subst hv';refine ⟨pa,_,pc,w',hr,by simp,?_,hg',fun b hb=>hf' b (by simpa using hb)⟩
  show w'.ownsRow 0 3 1 _ (l++m).length ((l++m).map (Value.int .i64))
  rw [List.length_append,List.map_append];exact hrow'
 ·have:m=[]:=List.length_eq_zero_iff.1 (by omega)
  subst this;rw [hv0] at hrow ⊢;have:=zDY W A0 l.length c0 hn0 A c
  exact ⟨A0,l.length,c0,W,by simpa using this,by simp,by rw [List.append_nil];exact hrow,⟨rfl,rfl,rfl,Nat.le_refl _,fun _ _ _=>rfl⟩,fun b hb=>.inl (by simpa using hb)⟩
end
end Go.Proofs.YtcombcoilpmnkaaGreat

/-
  Texts of this claim, joined (by a program of the claim's author): PqL, PqM, W8f, WEvs, RefPlain, RNum.
-/
import Derived.Test.YtcombcoilpmnkaaGreatWF1
import Derived.Test.YtcombcoilpmnkaaGreatWF16
import Derived.Test.YtcombcoilpmnkaaGreatWF8
import Derived.Test.YtcombcoilpmnkaaGreatWF18
import Derived.Test.YtcombcoilpmnkaaGreatWF17
import Derived.Deep.QuietTactic
import Derived.BigQuiet
namespace Go.Proofs.YtcombcoilpmnkaaGreat
set_option maxRecDepth 100000
set_option maxHeartbeats 16000000
section
open Go.RowKit
theorem zCi (s:List UInt8) (w:World) (hs:s.length≤1000000000) (n:Int) (h:Hid (countL s=n)) :
  Calls Tryz.prog 95 #[.string ⟨s.toArray⟩] w (Ret w (.int .i64 n)):=zCh _ w (by show s.toArray.size≤1000000000;simpa using hs) n h
theorem zCU (s:List UInt8) (w:World) (hs:s.length≤1000000000) (r:Bool) (h:Hid (nameL s=r)) :
  Calls Tryz.prog 60 #[.string ⟨s.toArray⟩] w (Ret w (.bool r)):=zCj _ w (by show s.toArray.size≤1000000000;simpa using hs) r h
theorem zLN (num:Int) (name value:List UInt8) (w:World) (hn:name.length≤1000000000) (hvl:value.length≤1000000000) :
  Calls Tryz.prog 61 #[.agg #[.int .i64 1,.int .i64 num,.string ⟨name.toArray⟩,.string ⟨value.toArray⟩]] w (Ret w (.bool (decide (1≤num∧num≤9999) && decide (name=[]∧value=[])))):=by
 obtain ⟨v,hv⟩:∃ v,Hid (nameL name=v):=⟨_,rfl⟩
 obtain ⟨n,hc⟩:∃ n,Hid (countL value=n):=⟨_,rfl⟩
 try rw [hv.out]
 try rw [hc.out]
 have hneg:n<0→value≠[]:=fun h e=>by rw [← hc.out,e] at h;revert h;decide
 have hnem:v=true→name≠[]:=fun h e=>by rw [← hv.out,e] at h;revert h;decide
 obtain ⟨W1,hW1⟩:∃ W1,Hid (W1=w.alloc (.cells #[.int .i64 1,.int .i64 num,.string ⟨name.toArray⟩,.string ⟨value.toArray⟩] 102)):=⟨_,rfl⟩
 have hb1:Below w.heap.size w W1:=by rw [hW1.out];exact (Below.refl _ w).alloc (Nat.le_refl _) _
 have hz1:w.heap.size<W1.heap.size:=by rw [hW1.out];simp
 have y:∀ (j:Nat) (u:Value),(#[.int .i64 1,.int .i64 num,.string ⟨name.toArray⟩,.string ⟨value.toArray⟩]:Array Value)[j]? = some u→W1.cell? ⟨w.heap.size,j,none⟩=some u:=fun j u hu=>by rw [hW1.out,World.cell?_alloc_at _ _ _ _ rfl];exact hu
 have HY:=Lib.hid y
 clear y
 go_enter Tryz.func61,Tryz.ntmps61
 go_wp2_with fail;rw [← hW1.out];refine (zCi value W1 hvl n hc).mono ?_
 rintro e w2 ⟨rfl,hb2⟩;have c0:w2.cell? ⟨w.heap.size,0,none⟩=some (.int .i64 1):=(hb2.cell hz1).trans (HY.out 0 _ rfl)
 have c1:w2.cell? ⟨w.heap.size,1,none⟩=some (.int .i64 num):=(hb2.cell hz1).trans (HY.out 1 _ rfl)
 have c2:w2.cell? ⟨w.heap.size,2,none⟩=some (.string ⟨name.toArray⟩):=(hb2.cell hz1).trans (HY.out 2 _ rfl)
 have c3:w2.cell? ⟨w.heap.size,3,none⟩=some (.string ⟨value.toArray⟩):=(hb2.cell hz1).trans (HY.out 3 _ rfl)
 have hz2:w.heap.size<w2.heap.size:=Nat.lt_of_lt_of_le hz1 hb2.size
 have HB:=Lib.hid (hb1.trans (hb2.mono (Nat.le_of_lt hz1)))
 have HS:Hid (w2.drew.cell? ⟨w.heap.size,0,none⟩=some (.int .i64 1)∧w2.drew.cell? ⟨w.heap.size,2,none⟩=some (.string ⟨name.toArray⟩)):=⟨c0,c2⟩
 have HC3:=Lib.hid c3
 clear hb1 hb2;by_cases h0:n<0
 ·have h0v:=hneg h0
  go_wp2_with fail
  all_goals go_ret
  all_goals refine ⟨?_,HB.out⟩
  all_goals (refine congrArg (fun b=>Ending.returned (Value.bool b)) ?_)
  all_goals simp_all
  all_goals first | (cases value <;> rfl) | (cases name <;> rfl) | (cases name <;> cases value <;> rfl) | (intros;first | omega | assumption | simp_all)
 have h0':0≤n:=by omega
 clear h0 hneg;by_cases hz:1≤num
 ·by_cases hzz:num≤9999
  ·go_wp2_with fail
   refine wp_region_held_drew (S:=fun w'=>w'.cell? ⟨w.heap.size,0,none⟩=some (.int .i64 1)∧w'.cell? ⟨w.heap.size,2,none⟩=some (.string ⟨name.toArray⟩)) (by kernel_rfl) HS.out (fun hHeld=>?_)
   refine tkv 0 (h:=tkv 1 (h:=tkv 2 (h:=tkv 3 (h:=?_))))
   refine tkv 4 (h:=tkv 5 (h:=tkv 6 (h:=?_)))
   refine tkv 7 (h:=tkv 8 (h:=tkv 9 (h:=?_)))
   refine rdy 10 (fun K hK=>?_)
   go_simp
   refine (zCU name _ hn v hv).mono ?_
   rintro e5 w5 ⟨rfl,hb5⟩;have hb5':Below w2.heap.size w2 w5:=((Below.refl _ w2).drew).trans hb5
   have HB5:=Lib.hid (HB.out.trans (hb5'.mono (Nat.le_of_lt hz2)))
   have HS5:Hid (w5.cell? ⟨w.heap.size,0,none⟩=some (.int .i64 1)∧w5.cell? ⟨w.heap.size,2,none⟩=some (.string ⟨name.toArray⟩)):=⟨(hb5'.cell (p:=⟨w.heap.size,0,none⟩) hz2).trans HS.out.1,(hb5'.cell (p:=⟨w.heap.size,2,none⟩) hz2).trans HS.out.2⟩
   have d0:w5.cell? ⟨w.heap.size,0,none⟩=some (.int .i64 1):=HS5.out.1
   have d3:w5.cell? ⟨w.heap.size,3,none⟩=some (.string ⟨value.toArray⟩):=(hb5'.cell (p:=⟨w.heap.size,3,none⟩) hz2).trans HC3.out
   have D0:=Lib.hid d0
   have D3:=Lib.hid d3
   clear hb5 hb5' d0 d3 c0 c1 c2 c3
   go_wp2_with fail;refine hK.out _ _ (HS5.out) (fun hHeld=>?_)
   clear hK K
   try go_frame
   cases v with
   | true =>
    have hne:=hnem rfl
    clear hnem;refine tkv 11 (h:=tkv 12 (h:=?_))
    refine tkn 13 (h:=tkn 14 (h:=tkn 15 (h:=tkn 16 (h:=tkn 17 (h:=tkn 18 (h:=?_))))))
    refine tkn 19 (h:=tkn 20 (h:=tkn 21 (h:=tkn 22 (h:=tkn 23 (h:=tkn 24 (h:=?_))))))
    refine tkn 25 (h:=?_)
    refine tkv 26 (h:=?_)
    refine wpAnyH_done (by kernel_rfl) ?_ _
    clear hHeld;have d0:=D0.out
    have d3:=D3.out
    go_wp2_with fail
    all_goals go_ret
    all_goals refine ⟨?_,HB5.out⟩
    all_goals (refine congrArg (fun b=>Ending.returned (Value.bool b)) ?_)
    all_goals simp_all
    all_goals first | (cases value <;> rfl) | (cases name <;> rfl) | (cases name <;> cases value <;> rfl) | (intros;first | omega | assumption | simp_all)
   | false =>
    clear hnem;refine tkv 11 (h:=tkv 12 (h:=tkv 13 (h:=tkv 14 (h:=tkv 15 (h:=tkv 16 (h:=?_))))))
    refine tkv 17 (h:=tkv 18 (h:=tkv 19 (h:=tkv 20 (h:=tkv 21 (h:=tkv 22 (h:=?_))))))
    refine tkv 23 (h:=tkv 24 (h:=tkv 25 (h:=?_)))
    refine tkv 26 (h:=?_)
    refine wpAnyH_done (by kernel_rfl) ?_ _
    clear hHeld;have d0:=D0.out
    have d3:=D3.out
    go_wp2_with fail
    all_goals go_ret
    all_goals refine ⟨?_,HB5.out⟩
    all_goals (refine congrArg (fun b=>Ending.returned (Value.bool b)) ?_)
    all_goals simp_all
    all_goals first | (cases value <;> rfl) | (cases name <;> rfl) | (cases name <;> cases value <;> rfl) | (intros;first | omega | assumption | simp_all)
  ·have hz3:9999<num:=by omega
   clear hzz
   go_wp2_with fail
   all_goals go_ret
   all_goals refine ⟨?_,HB.out⟩
   all_goals (refine congrArg (fun b=>Ending.returned (Value.bool b)) ?_)
   all_goals simp_all
   all_goals first | (cases value <;> rfl) | (cases name <;> rfl) | (cases name <;> cases value <;> rfl) | (intros;first | omega | assumption | simp_all)
 ·have hz3:num<1:=by omega
  clear hz
  go_wp2_with fail
  all_goals go_ret
  all_goals refine ⟨?_,HB.out⟩
  all_goals (refine congrArg (fun b=>Ending.returned (Value.bool b)) ?_)
  all_goals simp_all
  all_goals first | (cases value <;> rfl) | (cases name <;> rfl) | (cases name <;> cases value <;> rfl) | (intros;first | omega | assumption | simp_all)
theorem zLO (num:Int) (name value:List UInt8) (w:World) (hn:name.length≤1000000000) (hvl:value.length≤1000000000) :
  Calls Tryz.prog 61 #[.agg #[.int .i64 2,.int .i64 num,.string ⟨name.toArray⟩,.string ⟨value.toArray⟩]] w (Ret w (.bool (decide (num=0∧name=[]∧value=[])))):=by
 obtain ⟨v,hv⟩:∃ v,Hid (nameL name=v):=⟨_,rfl⟩
 obtain ⟨n,hc⟩:∃ n,Hid (countL value=n):=⟨_,rfl⟩
 try rw [hv.out]
 try rw [hc.out]
 have hneg:n<0→value≠[]:=fun h e=>by rw [← hc.out,e] at h;revert h;decide
 have hnem:v=true→name≠[]:=fun h e=>by rw [← hv.out,e] at h;revert h;decide
 obtain ⟨W1,hW1⟩:∃ W1,Hid (W1=w.alloc (.cells #[.int .i64 2,.int .i64 num,.string ⟨name.toArray⟩,.string ⟨value.toArray⟩] 102)):=⟨_,rfl⟩
 have hb1:Below w.heap.size w W1:=by rw [hW1.out];exact (Below.refl _ w).alloc (Nat.le_refl _) _
 have hz1:w.heap.size<W1.heap.size:=by rw [hW1.out];simp
 have y:∀ (j:Nat) (u:Value),(#[.int .i64 2,.int .i64 num,.string ⟨name.toArray⟩,.string ⟨value.toArray⟩]:Array Value)[j]? = some u→W1.cell? ⟨w.heap.size,j,none⟩=some u:=fun j u hu=>by rw [hW1.out,World.cell?_alloc_at _ _ _ _ rfl];exact hu
 have HY:=Lib.hid y
 clear y
 go_enter Tryz.func61,Tryz.ntmps61
 go_wp2_with fail;rw [← hW1.out];refine (zCi value W1 hvl n hc).mono ?_
 rintro e w2 ⟨rfl,hb2⟩;have c0:w2.cell? ⟨w.heap.size,0,none⟩=some (.int .i64 2):=(hb2.cell hz1).trans (HY.out 0 _ rfl)
 have c1:w2.cell? ⟨w.heap.size,1,none⟩=some (.int .i64 num):=(hb2.cell hz1).trans (HY.out 1 _ rfl)
 have c2:w2.cell? ⟨w.heap.size,2,none⟩=some (.string ⟨name.toArray⟩):=(hb2.cell hz1).trans (HY.out 2 _ rfl)
 have c3:w2.cell? ⟨w.heap.size,3,none⟩=some (.string ⟨value.toArray⟩):=(hb2.cell hz1).trans (HY.out 3 _ rfl)
 have hz2:w.heap.size<w2.heap.size:=Nat.lt_of_lt_of_le hz1 hb2.size
 have HB:=Lib.hid (hb1.trans (hb2.mono (Nat.le_of_lt hz1)))
 have HS:Hid (w2.drew.cell? ⟨w.heap.size,0,none⟩=some (.int .i64 2)∧w2.drew.cell? ⟨w.heap.size,2,none⟩=some (.string ⟨name.toArray⟩)):=⟨c0,c2⟩
 have HC3:=Lib.hid c3
 clear hb1 hb2;by_cases h0:n<0
 ·have h0v:=hneg h0
  go_wp2_with fail
  all_goals go_ret
  all_goals refine ⟨?_,HB.out⟩
  all_goals (refine congrArg (fun b=>Ending.returned (Value.bool b)) ?_)
  all_goals simp_all
  all_goals first | (cases value <;> rfl) | (cases name <;> rfl) | (cases name <;> cases value <;> rfl) | (intros;first | omega | assumption | simp_all)
 have h0':0≤n:=by omega
 clear h0 hneg;by_cases hz:num=0
 ·subst hz
  go_wp2_with fail;refine wp_region_held_drew (S:=fun w'=>w'.cell? ⟨w.heap.size,0,none⟩=some (.int .i64 2)∧w'.cell? ⟨w.heap.size,2,none⟩=some (.string ⟨name.toArray⟩)) (by kernel_rfl) HS.out (fun hHeld=>?_)
  refine tkv 0 (h:=tkv 1 (h:=tkv 2 (h:=tkv 3 (h:=?_))))
  refine tkv 4 (h:=tkv 5 (h:=tkv 6 (h:=?_)))
  refine tkv 7 (h:=tkv 8 (h:=tkv 9 (h:=?_)))
  refine rdy 10 (fun K hK=>?_)
  go_simp
  refine (zCU name _ hn v hv).mono ?_
  rintro e5 w5 ⟨rfl,hb5⟩;have hb5':Below w2.heap.size w2 w5:=((Below.refl _ w2).drew).trans hb5
  have HB5:=Lib.hid (HB.out.trans (hb5'.mono (Nat.le_of_lt hz2)))
  have HS5:Hid (w5.cell? ⟨w.heap.size,0,none⟩=some (.int .i64 2)∧w5.cell? ⟨w.heap.size,2,none⟩=some (.string ⟨name.toArray⟩)):=⟨(hb5'.cell (p:=⟨w.heap.size,0,none⟩) hz2).trans HS.out.1,(hb5'.cell (p:=⟨w.heap.size,2,none⟩) hz2).trans HS.out.2⟩
  have d0:w5.cell? ⟨w.heap.size,0,none⟩=some (.int .i64 2):=HS5.out.1
  have d3:w5.cell? ⟨w.heap.size,3,none⟩=some (.string ⟨value.toArray⟩):=(hb5'.cell (p:=⟨w.heap.size,3,none⟩) hz2).trans HC3.out
  have D0:=Lib.hid d0
  have D3:=Lib.hid d3
  clear hb5 hb5' d0 d3 c0 c1 c2 c3
  go_wp2_with fail;refine hK.out _ _ (HS5.out) (fun hHeld=>?_)
  clear hK K
  try go_frame
  cases v with
  | true =>
   have hne:=hnem rfl
   clear hnem;refine tkv 11 (h:=tkv 12 (h:=?_))
   refine tkn 13 (h:=tkn 14 (h:=tkn 15 (h:=tkn 16 (h:=tkn 17 (h:=tkn 18 (h:=?_))))))
   refine tkn 19 (h:=tkn 20 (h:=tkn 21 (h:=tkn 22 (h:=tkn 23 (h:=tkn 24 (h:=?_))))))
   refine tkn 25 (h:=?_)
   refine tkv 26 (h:=?_)
   refine wpAnyH_done (by kernel_rfl) ?_ _
   clear hHeld;have d0:=D0.out
   have d3:=D3.out
   go_wp2_with fail
   all_goals go_ret
   all_goals refine ⟨?_,HB5.out⟩
   all_goals (refine congrArg (fun b=>Ending.returned (Value.bool b)) ?_)
   all_goals simp_all
   all_goals first | (cases value <;> rfl) | (cases name <;> rfl) | (cases name <;> cases value <;> rfl) | (intros;first | omega | assumption | simp_all)
  | false =>
   clear hnem;refine tkv 11 (h:=tkv 12 (h:=tkv 13 (h:=tkv 14 (h:=tkv 15 (h:=tkv 16 (h:=?_))))))
   refine tkv 17 (h:=tkv 18 (h:=tkv 19 (h:=tkv 20 (h:=tkv 21 (h:=tkv 22 (h:=?_))))))
   refine tkv 23 (h:=tkv 24 (h:=tkv 25 (h:=?_)))
   refine tkv 26 (h:=?_)
   refine wpAnyH_done (by kernel_rfl) ?_ _
   clear hHeld;have d0:=D0.out
   have d3:=D3.out
   go_wp2_with fail
   all_goals go_ret
   all_goals refine ⟨?_,HB5.out⟩
   all_goals (refine congrArg (fun b=>Ending.returned (Value.bool b)) ?_)
   all_goals simp_all
   all_goals first | (cases value <;> rfl) | (cases name <;> rfl) | (cases name <;> cases value <;> rfl) | (intros;first | omega | assumption | simp_all)
 ·have e0:(num == 0)=false:=by simpa using hz
  have e1:(num != 0)=true:=by simpa using hz
  go_wp2_with fail
  all_goals go_ret
  all_goals refine ⟨?_,HB.out⟩
  all_goals (refine congrArg (fun b=>Ending.returned (Value.bool b)) ?_)
  all_goals simp_all
  all_goals first | (cases value <;> rfl) | (cases name <;> rfl) | (cases name <;> cases value <;> rfl) | (intros;first | omega | assumption | simp_all)
theorem zLP (num:Int) (name value:List UInt8) (w:World) (hn:name.length≤1000000000) (hvl:value.length≤1000000000) :
  Calls Tryz.prog 61 #[.agg #[.int .i64 3,.int .i64 num,.string ⟨name.toArray⟩,.string ⟨value.toArray⟩]] w (Ret w (.bool (nameL name && decide (num=0∧value=[])))):=by
 obtain ⟨v,hv⟩:∃ v,Hid (nameL name=v):=⟨_,rfl⟩
 obtain ⟨n,hc⟩:∃ n,Hid (countL value=n):=⟨_,rfl⟩
 try rw [hv.out]
 try rw [hc.out]
 have hneg:n<0→value≠[]:=fun h e=>by rw [← hc.out,e] at h;revert h;decide
 have hnem:v=true→name≠[]:=fun h e=>by rw [← hv.out,e] at h;revert h;decide
 obtain ⟨W1,hW1⟩:∃ W1,Hid (W1=w.alloc (.cells #[.int .i64 3,.int .i64 num,.string ⟨name.toArray⟩,.string ⟨value.toArray⟩] 102)):=⟨_,rfl⟩
 have hb1:Below w.heap.size w W1:=by rw [hW1.out];exact (Below.refl _ w).alloc (Nat.le_refl _) _
 have hz1:w.heap.size<W1.heap.size:=by rw [hW1.out];simp
 have y:∀ (j:Nat) (u:Value),(#[.int .i64 3,.int .i64 num,.string ⟨name.toArray⟩,.string ⟨value.toArray⟩]:Array Value)[j]? = some u→W1.cell? ⟨w.heap.size,j,none⟩=some u:=fun j u hu=>by rw [hW1.out,World.cell?_alloc_at _ _ _ _ rfl];exact hu
 have HY:=Lib.hid y
 clear y
 go_enter Tryz.func61,Tryz.ntmps61
 go_wp2_with fail;rw [← hW1.out];refine (zCi value W1 hvl n hc).mono ?_
 rintro e w2 ⟨rfl,hb2⟩;have c0:w2.cell? ⟨w.heap.size,0,none⟩=some (.int .i64 3):=(hb2.cell hz1).trans (HY.out 0 _ rfl)
 have c1:w2.cell? ⟨w.heap.size,1,none⟩=some (.int .i64 num):=(hb2.cell hz1).trans (HY.out 1 _ rfl)
 have c2:w2.cell? ⟨w.heap.size,2,none⟩=some (.string ⟨name.toArray⟩):=(hb2.cell hz1).trans (HY.out 2 _ rfl)
 have c3:w2.cell? ⟨w.heap.size,3,none⟩=some (.string ⟨value.toArray⟩):=(hb2.cell hz1).trans (HY.out 3 _ rfl)
 have hz2:w.heap.size<w2.heap.size:=Nat.lt_of_lt_of_le hz1 hb2.size
 have HB:=Lib.hid (hb1.trans (hb2.mono (Nat.le_of_lt hz1)))
 have HS:Hid (w2.drew.cell? ⟨w.heap.size,0,none⟩=some (.int .i64 3)∧w2.drew.cell? ⟨w.heap.size,2,none⟩=some (.string ⟨name.toArray⟩)):=⟨c0,c2⟩
 have HC3:=Lib.hid c3
 clear hb1 hb2;by_cases h0:n<0
 ·have h0v:=hneg h0
  go_wp2_with fail
  all_goals go_ret
  all_goals refine ⟨?_,HB.out⟩
  all_goals (refine congrArg (fun b=>Ending.returned (Value.bool b)) ?_)
  all_goals simp_all
  all_goals first | (cases value <;> rfl) | (cases name <;> rfl) | (cases name <;> cases value <;> rfl) | (intros;first | omega | assumption | simp_all)
 have h0':0≤n:=by omega
 clear h0 hneg;by_cases hz:num=0
 ·subst hz
  go_wp2_with fail;refine wp_region_held_drew (S:=fun w'=>w'.cell? ⟨w.heap.size,0,none⟩=some (.int .i64 3)∧w'.cell? ⟨w.heap.size,2,none⟩=some (.string ⟨name.toArray⟩)) (by kernel_rfl) HS.out (fun hHeld=>?_)
  refine tkv 0 (h:=tkv 1 (h:=tkv 2 (h:=tkv 3 (h:=?_))))
  refine tkn 4 (h:=tkn 5 (h:=tkn 6 (h:=?_)))
  refine tkv 7 (h:=tkv 8 (h:=tkv 9 (h:=?_)))
  refine rdy 10 (fun K hK=>?_)
  go_simp
  refine (zCU name _ hn v hv).mono ?_
  rintro e5 w5 ⟨rfl,hb5⟩;have hb5':Below w2.heap.size w2 w5:=((Below.refl _ w2).drew).trans hb5
  have HB5:=Lib.hid (HB.out.trans (hb5'.mono (Nat.le_of_lt hz2)))
  have HS5:Hid (w5.cell? ⟨w.heap.size,0,none⟩=some (.int .i64 3)∧w5.cell? ⟨w.heap.size,2,none⟩=some (.string ⟨name.toArray⟩)):=⟨(hb5'.cell (p:=⟨w.heap.size,0,none⟩) hz2).trans HS.out.1,(hb5'.cell (p:=⟨w.heap.size,2,none⟩) hz2).trans HS.out.2⟩
  have d0:w5.cell? ⟨w.heap.size,0,none⟩=some (.int .i64 3):=HS5.out.1
  have d3:w5.cell? ⟨w.heap.size,3,none⟩=some (.string ⟨value.toArray⟩):=(hb5'.cell (p:=⟨w.heap.size,3,none⟩) hz2).trans HC3.out
  have D0:=Lib.hid d0
  have D3:=Lib.hid d3
  clear hb5 hb5' d0 d3 c0 c1 c2 c3
  go_wp2_with fail;refine hK.out _ _ (HS5.out) (fun hHeld=>?_)
  clear hK K
  try go_frame
  cases v with
  | true =>
   clear hnem;refine tkv 11 (h:=tkv 12 (h:=tkv 13 (h:=tkv 14 (h:=tkv 15 (h:=tkv 16 (h:=?_))))))
   refine tkn 17 (h:=tkn 18 (h:=tkn 19 (h:=?_)))
   refine tkv 20 (h:=tkv 21 (h:=?_))
   refine tkn 22 (h:=tkn 23 (h:=tkn 24 (h:=?_)))
   refine tkv 25 (h:=?_)
   refine tkv 26 (h:=?_)
   refine wpAnyH_done (by kernel_rfl) ?_ _
   clear hHeld;have d0:=D0.out
   have d3:=D3.out
   go_wp2_with fail
   all_goals go_ret
   all_goals refine ⟨?_,HB5.out⟩
   all_goals (refine congrArg (fun b=>Ending.returned (Value.bool b)) ?_)
   all_goals simp_all
   all_goals first | (cases value <;> rfl) | (cases name <;> rfl) | (cases name <;> cases value <;> rfl) | (intros;first | omega | assumption | simp_all)
  | false =>
   clear hnem;refine tkv 11 (h:=tkv 12 (h:=?_))
   refine tkn 13 (h:=tkn 14 (h:=tkn 15 (h:=tkn 16 (h:=tkn 17 (h:=tkn 18 (h:=?_))))))
   refine tkn 19 (h:=tkn 20 (h:=tkn 21 (h:=tkn 22 (h:=tkn 23 (h:=tkn 24 (h:=?_))))))
   refine tkn 25 (h:=?_)
   refine tkv 26 (h:=?_)
   refine wpAnyH_done (by kernel_rfl) ?_ _
   clear hHeld;have d0:=D0.out
   have d3:=D3.out
   go_wp2_with fail
   all_goals go_ret
   all_goals refine ⟨?_,HB5.out⟩
   all_goals (refine congrArg (fun b=>Ending.returned (Value.bool b)) ?_)
   all_goals simp_all
   all_goals first | (cases value <;> rfl) | (cases name <;> rfl) | (cases name <;> cases value <;> rfl) | (intros;first | omega | assumption | simp_all)
 ·have e0:(num == 0)=false:=by simpa using hz
  have e1:(num != 0)=true:=by simpa using hz
  go_wp2_with fail
  all_goals go_ret
  all_goals refine ⟨?_,HB.out⟩
  all_goals (refine congrArg (fun b=>Ending.returned (Value.bool b)) ?_)
  all_goals simp_all
  all_goals first | (cases value <;> rfl) | (cases name <;> rfl) | (cases name <;> cases value <;> rfl) | (intros;first | omega | assumption | simp_all)
theorem zLQ (num:Int) (name value:List UInt8) (w:World) (hn:name.length≤1000000000) (hvl:value.length≤1000000000) :
  Calls Tryz.prog 61 #[.agg #[.int .i64 4,.int .i64 num,.string ⟨name.toArray⟩,.string ⟨value.toArray⟩]] w (Ret w (.bool (nameL name && (decide (0≤countL value) && decide (num=0))))):=by
 obtain ⟨v,hv⟩:∃ v,Hid (nameL name=v):=⟨_,rfl⟩
 obtain ⟨n,hc⟩:∃ n,Hid (countL value=n):=⟨_,rfl⟩
 try rw [hv.out]
 try rw [hc.out]
 have hneg:n<0→value≠[]:=fun h e=>by rw [← hc.out,e] at h;revert h;decide
 have hnem:v=true→name≠[]:=fun h e=>by rw [← hv.out,e] at h;revert h;decide
 obtain ⟨W1,hW1⟩:∃ W1,Hid (W1=w.alloc (.cells #[.int .i64 4,.int .i64 num,.string ⟨name.toArray⟩,.string ⟨value.toArray⟩] 102)):=⟨_,rfl⟩
 have hb1:Below w.heap.size w W1:=by rw [hW1.out];exact (Below.refl _ w).alloc (Nat.le_refl _) _
 have hz1:w.heap.size<W1.heap.size:=by rw [hW1.out];simp
 have y:∀ (j:Nat) (u:Value),(#[.int .i64 4,.int .i64 num,.string ⟨name.toArray⟩,.string ⟨value.toArray⟩]:Array Value)[j]? = some u→W1.cell? ⟨w.heap.size,j,none⟩=some u:=fun j u hu=>by rw [hW1.out,World.cell?_alloc_at _ _ _ _ rfl];exact hu
 have HY:=Lib.hid y
 clear y
 go_enter Tryz.func61,Tryz.ntmps61
 go_wp2_with fail;rw [← hW1.out];refine (zCi value W1 hvl n hc).mono ?_
 rintro e w2 ⟨rfl,hb2⟩;have c0:w2.cell? ⟨w.heap.size,0,none⟩=some (.int .i64 4):=(hb2.cell hz1).trans (HY.out 0 _ rfl)
 have c1:w2.cell? ⟨w.heap.size,1,none⟩=some (.int .i64 num):=(hb2.cell hz1).trans (HY.out 1 _ rfl)
 have c2:w2.cell? ⟨w.heap.size,2,none⟩=some (.string ⟨name.toArray⟩):=(hb2.cell hz1).trans (HY.out 2 _ rfl)
 have c3:w2.cell? ⟨w.heap.size,3,none⟩=some (.string ⟨value.toArray⟩):=(hb2.cell hz1).trans (HY.out 3 _ rfl)
 have hz2:w.heap.size<w2.heap.size:=Nat.lt_of_lt_of_le hz1 hb2.size
 have HB:=Lib.hid (hb1.trans (hb2.mono (Nat.le_of_lt hz1)))
 have HS:Hid (w2.drew.cell? ⟨w.heap.size,0,none⟩=some (.int .i64 4)∧w2.drew.cell? ⟨w.heap.size,2,none⟩=some (.string ⟨name.toArray⟩)):=⟨c0,c2⟩
 have HC3:=Lib.hid c3
 clear hb1 hb2;by_cases h0:n<0
 ·have h0v:=hneg h0
  go_wp2_with fail
  all_goals go_ret
  all_goals refine ⟨?_,HB.out⟩
  all_goals (refine congrArg (fun b=>Ending.returned (Value.bool b)) ?_)
  all_goals simp_all
  all_goals first | (cases value <;> rfl) | (cases name <;> rfl) | (cases name <;> cases value <;> rfl) | (intros;first | omega | assumption | simp_all)
 have h0':0≤n:=by omega
 clear h0 hneg;by_cases hz:num=0
 ·subst hz
  go_wp2_with fail;refine wp_region_held_drew (S:=fun w'=>w'.cell? ⟨w.heap.size,0,none⟩=some (.int .i64 4)∧w'.cell? ⟨w.heap.size,2,none⟩=some (.string ⟨name.toArray⟩)) (by kernel_rfl) HS.out (fun hHeld=>?_)
  refine tkv 0 (h:=tkv 1 (h:=tkv 2 (h:=tkv 3 (h:=?_))))
  refine tkv 4 (h:=tkv 5 (h:=tkv 6 (h:=?_)))
  refine tkv 7 (h:=tkv 8 (h:=tkv 9 (h:=?_)))
  refine rdy 10 (fun K hK=>?_)
  go_simp
  refine (zCU name _ hn v hv).mono ?_
  rintro e5 w5 ⟨rfl,hb5⟩;have hb5':Below w2.heap.size w2 w5:=((Below.refl _ w2).drew).trans hb5
  have HB5:=Lib.hid (HB.out.trans (hb5'.mono (Nat.le_of_lt hz2)))
  have HS5:Hid (w5.cell? ⟨w.heap.size,0,none⟩=some (.int .i64 4)∧w5.cell? ⟨w.heap.size,2,none⟩=some (.string ⟨name.toArray⟩)):=⟨(hb5'.cell (p:=⟨w.heap.size,0,none⟩) hz2).trans HS.out.1,(hb5'.cell (p:=⟨w.heap.size,2,none⟩) hz2).trans HS.out.2⟩
  have d0:w5.cell? ⟨w.heap.size,0,none⟩=some (.int .i64 4):=HS5.out.1
  have d3:w5.cell? ⟨w.heap.size,3,none⟩=some (.string ⟨value.toArray⟩):=(hb5'.cell (p:=⟨w.heap.size,3,none⟩) hz2).trans HC3.out
  have D0:=Lib.hid d0
  have D3:=Lib.hid d3
  clear hb5 hb5' d0 d3 c0 c1 c2 c3
  go_wp2_with fail;refine hK.out _ _ (HS5.out) (fun hHeld=>?_)
  clear hK K
  try go_frame
  cases v with
  | true =>
   clear hnem;refine tkv 11 (h:=tkv 12 (h:=tkv 13 (h:=tkv 14 (h:=tkv 15 (h:=tkv 16 (h:=?_))))))
   refine tkv 17 (h:=tkv 18 (h:=tkv 19 (h:=?_)))
   refine tkv 20 (h:=tkv 21 (h:=?_))
   refine tkn 22 (h:=tkn 23 (h:=tkn 24 (h:=?_)))
   refine tkv 25 (h:=?_)
   refine tkv 26 (h:=?_)
   refine wpAnyH_done (by kernel_rfl) ?_ _
   clear hHeld;have d0:=D0.out
   have d3:=D3.out
   go_wp2_with fail
   all_goals go_ret
   all_goals refine ⟨?_,HB5.out⟩
   all_goals (refine congrArg (fun b=>Ending.returned (Value.bool b)) ?_)
   all_goals simp_all
   all_goals first | (cases value <;> rfl) | (cases name <;> rfl) | (cases name <;> cases value <;> rfl) | (intros;first | omega | assumption | simp_all)
  | false =>
   clear hnem;refine tkv 11 (h:=tkv 12 (h:=?_))
   refine tkn 13 (h:=tkn 14 (h:=tkn 15 (h:=tkn 16 (h:=tkn 17 (h:=tkn 18 (h:=?_))))))
   refine tkn 19 (h:=tkn 20 (h:=tkn 21 (h:=tkn 22 (h:=tkn 23 (h:=tkn 24 (h:=?_))))))
   refine tkn 25 (h:=?_)
   refine tkv 26 (h:=?_)
   refine wpAnyH_done (by kernel_rfl) ?_ _
   clear hHeld;have d0:=D0.out
   have d3:=D3.out
   go_wp2_with fail
   all_goals go_ret
   all_goals refine ⟨?_,HB5.out⟩
   all_goals (refine congrArg (fun b=>Ending.returned (Value.bool b)) ?_)
   all_goals simp_all
   all_goals first | (cases value <;> rfl) | (cases name <;> rfl) | (cases name <;> cases value <;> rfl) | (intros;first | omega | assumption | simp_all)
 ·have e0:(num == 0)=false:=by simpa using hz
  have e1:(num != 0)=true:=by simpa using hz
  go_wp2_with fail
  all_goals go_ret
  all_goals refine ⟨?_,HB.out⟩
  all_goals (refine congrArg (fun b=>Ending.returned (Value.bool b)) ?_)
  all_goals simp_all
  all_goals first | (cases value <;> rfl) | (cases name <;> rfl) | (cases name <;> cases value <;> rfl) | (intros;first | omega | assumption | simp_all)
theorem zLR (num:Int) (name value:List UInt8) (w:World) (hn:name.length≤1000000000) (hvl:value.length≤1000000000) :
  Calls Tryz.prog 61 #[.agg #[.int .i64 5,.int .i64 num,.string ⟨name.toArray⟩,.string ⟨value.toArray⟩]] w (Ret w (.bool (decide (0≤countL value) && decide (num=0∧name=[])))):=by
 obtain ⟨v,hv⟩:∃ v,Hid (nameL name=v):=⟨_,rfl⟩
 obtain ⟨n,hc⟩:∃ n,Hid (countL value=n):=⟨_,rfl⟩
 try rw [hv.out]
 try rw [hc.out]
 have hneg:n<0→value≠[]:=fun h e=>by rw [← hc.out,e] at h;revert h;decide
 have hnem:v=true→name≠[]:=fun h e=>by rw [← hv.out,e] at h;revert h;decide
 obtain ⟨W1,hW1⟩:∃ W1,Hid (W1=w.alloc (.cells #[.int .i64 5,.int .i64 num,.string ⟨name.toArray⟩,.string ⟨value.toArray⟩] 102)):=⟨_,rfl⟩
 have hb1:Below w.heap.size w W1:=by rw [hW1.out];exact (Below.refl _ w).alloc (Nat.le_refl _) _
 have hz1:w.heap.size<W1.heap.size:=by rw [hW1.out];simp
 have y:∀ (j:Nat) (u:Value),(#[.int .i64 5,.int .i64 num,.string ⟨name.toArray⟩,.string ⟨value.toArray⟩]:Array Value)[j]? = some u→W1.cell? ⟨w.heap.size,j,none⟩=some u:=fun j u hu=>by rw [hW1.out,World.cell?_alloc_at _ _ _ _ rfl];exact hu
 have HY:=Lib.hid y
 clear y
 go_enter Tryz.func61,Tryz.ntmps61
 go_wp2_with fail;rw [← hW1.out];refine (zCi value W1 hvl n hc).mono ?_
 rintro e w2 ⟨rfl,hb2⟩;have c0:w2.cell? ⟨w.heap.size,0,none⟩=some (.int .i64 5):=(hb2.cell hz1).trans (HY.out 0 _ rfl)
 have c1:w2.cell? ⟨w.heap.size,1,none⟩=some (.int .i64 num):=(hb2.cell hz1).trans (HY.out 1 _ rfl)
 have c2:w2.cell? ⟨w.heap.size,2,none⟩=some (.string ⟨name.toArray⟩):=(hb2.cell hz1).trans (HY.out 2 _ rfl)
 have c3:w2.cell? ⟨w.heap.size,3,none⟩=some (.string ⟨value.toArray⟩):=(hb2.cell hz1).trans (HY.out 3 _ rfl)
 have hz2:w.heap.size<w2.heap.size:=Nat.lt_of_lt_of_le hz1 hb2.size
 have HB:=Lib.hid (hb1.trans (hb2.mono (Nat.le_of_lt hz1)))
 have HS:Hid (w2.drew.cell? ⟨w.heap.size,0,none⟩=some (.int .i64 5)∧w2.drew.cell? ⟨w.heap.size,2,none⟩=some (.string ⟨name.toArray⟩)):=⟨c0,c2⟩
 have HC3:=Lib.hid c3
 clear hb1 hb2;by_cases h0:n<0
 ·have h0v:=hneg h0
  go_wp2_with fail
  all_goals go_ret
  all_goals refine ⟨?_,HB.out⟩
  all_goals (refine congrArg (fun b=>Ending.returned (Value.bool b)) ?_)
  all_goals simp_all
  all_goals first | (cases value <;> rfl) | (cases name <;> rfl) | (cases name <;> cases value <;> rfl) | (intros;first | omega | assumption | simp_all)
 have h0':0≤n:=by omega
 clear h0 hneg;by_cases hz:num=0
 ·subst hz
  go_wp2_with fail;refine wp_region_held_drew (S:=fun w'=>w'.cell? ⟨w.heap.size,0,none⟩=some (.int .i64 5)∧w'.cell? ⟨w.heap.size,2,none⟩=some (.string ⟨name.toArray⟩)) (by kernel_rfl) HS.out (fun hHeld=>?_)
  refine tkv 0 (h:=tkv 1 (h:=tkv 2 (h:=tkv 3 (h:=?_))))
  refine tkv 4 (h:=tkv 5 (h:=tkv 6 (h:=?_)))
  refine tkv 7 (h:=tkv 8 (h:=tkv 9 (h:=?_)))
  refine rdy 10 (fun K hK=>?_)
  go_simp
  refine (zCU name _ hn v hv).mono ?_
  rintro e5 w5 ⟨rfl,hb5⟩;have hb5':Below w2.heap.size w2 w5:=((Below.refl _ w2).drew).trans hb5
  have HB5:=Lib.hid (HB.out.trans (hb5'.mono (Nat.le_of_lt hz2)))
  have HS5:Hid (w5.cell? ⟨w.heap.size,0,none⟩=some (.int .i64 5)∧w5.cell? ⟨w.heap.size,2,none⟩=some (.string ⟨name.toArray⟩)):=⟨(hb5'.cell (p:=⟨w.heap.size,0,none⟩) hz2).trans HS.out.1,(hb5'.cell (p:=⟨w.heap.size,2,none⟩) hz2).trans HS.out.2⟩
  have d0:w5.cell? ⟨w.heap.size,0,none⟩=some (.int .i64 5):=HS5.out.1
  have d3:w5.cell? ⟨w.heap.size,3,none⟩=some (.string ⟨value.toArray⟩):=(hb5'.cell (p:=⟨w.heap.size,3,none⟩) hz2).trans HC3.out
  have D0:=Lib.hid d0
  have D3:=Lib.hid d3
  clear hb5 hb5' d0 d3 c0 c1 c2 c3
  go_wp2_with fail;refine hK.out _ _ (HS5.out) (fun hHeld=>?_)
  clear hK K
  try go_frame
  cases v with
  | true =>
   have hne:=hnem rfl
   clear hnem;refine tkv 11 (h:=tkv 12 (h:=?_))
   refine tkn 13 (h:=tkn 14 (h:=tkn 15 (h:=tkn 16 (h:=tkn 17 (h:=tkn 18 (h:=?_))))))
   refine tkn 19 (h:=tkn 20 (h:=tkn 21 (h:=tkn 22 (h:=tkn 23 (h:=tkn 24 (h:=?_))))))
   refine tkn 25 (h:=?_)
   refine tkv 26 (h:=?_)
   refine wpAnyH_done (by kernel_rfl) ?_ _
   clear hHeld;have d0:=D0.out
   have d3:=D3.out
   go_wp2_with fail
   all_goals go_ret
   all_goals refine ⟨?_,HB5.out⟩
   all_goals (refine congrArg (fun b=>Ending.returned (Value.bool b)) ?_)
   all_goals simp_all
   all_goals first | (cases value <;> rfl) | (cases name <;> rfl) | (cases name <;> cases value <;> rfl) | (intros;first | omega | assumption | simp_all)
  | false =>
   clear hnem;refine tkv 11 (h:=tkv 12 (h:=tkv 13 (h:=tkv 14 (h:=tkv 15 (h:=tkv 16 (h:=?_))))))
   refine tkv 17 (h:=tkv 18 (h:=tkv 19 (h:=tkv 20 (h:=tkv 21 (h:=tkv 22 (h:=?_))))))
   refine tkv 23 (h:=tkv 24 (h:=tkv 25 (h:=?_)))
   refine tkv 26 (h:=?_)
   refine wpAnyH_done (by kernel_rfl) ?_ _
   clear hHeld;have d0:=D0.out
   have d3:=D3.out
   go_wp2_with fail
   all_goals go_ret
   all_goals refine ⟨?_,HB5.out⟩
   all_goals (refine congrArg (fun b=>Ending.returned (Value.bool b)) ?_)
   all_goals simp_all
   all_goals first | (cases value <;> rfl) | (cases name <;> rfl) | (cases name <;> cases value <;> rfl) | (intros;first | omega | assumption | simp_all)
 ·have e0:(num == 0)=false:=by simpa using hz
  have e1:(num != 0)=true:=by simpa using hz
  go_wp2_with fail
  all_goals go_ret
  all_goals refine ⟨?_,HB.out⟩
  all_goals (refine congrArg (fun b=>Ending.returned (Value.bool b)) ?_)
  all_goals simp_all
  all_goals first | (cases value <;> rfl) | (cases name <;> rfl) | (cases name <;> cases value <;> rfl) | (intros;first | omega | assumption | simp_all)
theorem zKG (k num:Int) (name value:List UInt8) (w:World) (h:k<1∨5<k) :
  Calls Tryz.prog 61 #[.agg #[.int .i64 k,.int .i64 num,.string ⟨name.toArray⟩,.string ⟨value.toArray⟩]] w (Ret w (.bool false)):=by
 rcases h with h | h
 ·go_enter Tryz.func61,Tryz.ntmps61
  go_wp2_with fail
  go_ret;exact ⟨rfl,(Below.refl _ w).alloc (Nat.le_refl _) _⟩
 ·have h1:1≤k:=by omega
  go_enter Tryz.func61,Tryz.ntmps61
  go_wp2_with fail
  go_ret;exact ⟨rfl,(Below.refl _ w).alloc (Nat.le_refl _) _⟩
theorem zFA (p:PredD) (w:World) (hp:SmallPred p) (v:Bool) (hv:Hid (predB p=v)):Calls Tryz.prog 61 #[.agg (predC p)] w (Ret w (.bool v)):=by
 rw [← hv.out];obtain ⟨k,n,name,value⟩:=p
 obtain ⟨hn,hvl⟩:=hp
 unfold predB predC;simp only
 by_cases h1:k=1
 ·subst h1;rw [if_pos rfl];exact zLN n name value w hn hvl
 rw [if_neg h1];by_cases h2:k=2
 ·subst h2;rw [if_pos rfl];exact zLO n name value w hn hvl
 rw [if_neg h2];by_cases h3:k=3
 ·subst h3;rw [if_pos rfl];exact zLP n name value w hn hvl
 rw [if_neg h3];by_cases h4:k=4
 ·subst h4;rw [if_pos rfl];exact zLQ n name value w hn hvl
 rw [if_neg h4];by_cases h5:k=5
 ·subst h5;rw [if_pos rfl];exact zLR n name value w hn hvl
 rw [if_neg h5];exact zKG k n name value w (by omega)
end
section
open Go.RowKit
theorem zEh (l:List StepD) (A:Option Addr) (c:Nat) (w:World) (hA:StepsAt w w.heap.size A l) (hs:SmallSteps l) (R:Bool) (hR:Hid (rightL l=R)) :
  Calls Tryz.prog 35 #[.slice A l.length c] w (Ret w (.bool R)):=by
 have HA:=Lib.hid hA
 have HS:=Lib.hid hs
 obtain ⟨Q,hQ⟩:∃ Q,Hid (l.all stepB=Q):=⟨_,rfl⟩
 have hRQ:=hR.out
 unfold rightL at hRQ;rw [hQ.out] at hRQ;have HRQ:=Lib.hid hRQ
 have hl:=hs.1
 clear hA hs hRQ hR
 go_enter Tryz.func35,Tryz.ntmps35
 go_wp2_with fail
 go_loopw [3] (fun i wr=>∃ (n:Nat),n≤l.length∧i=.int .i64 (n:Int)∧Hid ((l.drop n).all stepB=Q)∧Hid (Below w.heap.size w wr)) (fun i _=>l.length-(intOf i).toNat)
 case atStart=>exact ⟨0,Nat.zero_le _,by go_num,hQ.out,Below.refl _ _⟩
 case round =>
  obtain ⟨n,hnl,rfl,hin,hbelH⟩:=hrel
  have j0:(0:Int)≤(n:Int):=by omega
  by_cases hlt:n<l.length
  ·obtain ⟨ad,rfl,_⟩:=HA.out (by omega)
   obtain ⟨s,hy⟩:∃ s,Hid (l[n]? = some s):=⟨l[n],List.getElem?_eq_getElem _⟩
   obtain ⟨hb,A',c',hpa,hpc,hs0,hs1,hs2,hs3⟩:=HA.out.item hy.out
   obtain ⟨hsn,hsp,hsm⟩:=HS.out.2 s (List.mem_of_getElem? hy.out)
   have HSM:=Lib.hid hsm
   have HPA:=Lib.hid hpa
   have hbel:=hbelH.out
   have hin':=hin.out
   rw [zAY hy.out,List.all_cons,zFB] at hin';have j1:(n:Int)<l.length:=by omega
   have c0:wr.cell? (ad.add (n * 4))=some (.int .i64 s.axis):=(hbel.cell (by rw [zAD];exact hb)).trans hs0
   have c1:wr.cell? ⟨(ad.add (n * 4)).block,(ad.add (n * 4)).off+1,none⟩=some (.int .i64 s.test):=(hbel.cell (by show (ad.add _).block<_;rw [zAD];exact hb)).trans hs1
   have c2:wr.cell? ⟨(ad.add (n * 4)).block,(ad.add (n * 4)).off+2,none⟩=some (.string ⟨s.name.toArray⟩):=(hbel.cell (by show (ad.add _).block<_;rw [zAD];exact hb)).trans hs2
   have c3:wr.cell? ⟨(ad.add (n * 4)).block,(ad.add (n * 4)).off+3,none⟩=some (.slice A' s.preds.length c'):=(hbel.cell (by show (ad.add _).block<_;rw [zAD];exact hb)).trans hs3
   clear hs0 hs1 hs2 hs3 hpa hsm hin hbel;obtain ⟨W1,hW1⟩:∃ W1,Hid (W1=wr.alloc (.cells #[.int .i64 s.axis,.int .i64 s.test,.string ⟨s.name.toArray⟩,.slice A' s.preds.length c'] 45)):=⟨_,rfl⟩
   have hb1:Below wr.heap.size wr W1:=by rw [hW1.out];exact (Below.refl _ wr).alloc (Nat.le_refl _) _
   have hz1:wr.heap.size<W1.heap.size:=by rw [hW1.out];simp
   have HB1:Hid (Below w.heap.size w W1):=hbelH.out.trans (hb1.mono hbelH.out.size)
   have y:∀ (j:Nat) (u:Value),(#[.int .i64 s.axis,.int .i64 s.test,.string ⟨s.name.toArray⟩,.slice A' s.preds.length c']:Array Value)[j]? = some u→W1.cell? ⟨wr.heap.size,j,none⟩=some u:=fun j u hu=>by rw [hW1.out,World.cell?_alloc_at _ _ _ _ rfl];exact hu
   have HY:=Lib.hid y
   clear y;by_cases h0:(1≤s.axis∧s.axis≤8)∧(1≤s.test∧s.test≤4)∧s.preds.length≤5
   ·obtain ⟨⟨a1,a2⟩,⟨a3,a4⟩,a5⟩:=h0
    have a5':(s.preds.length:Int)≤5:=by omega
    have hok:headB s=nameB s:=by unfold headB;simp [a1,a2,a3,a4,a5]
    by_cases ht:s.test=1
    ·have t1:(s.test == 1)=true:=by simpa using ht
     have t2:(s.test != 1)=false:=by simpa using ht
     obtain ⟨v,hv⟩:∃ v,Hid (nameL s.name=v):=⟨_,rfl⟩
     have hnm:nameB s=v:=by unfold nameB;rw [if_pos ht];exact hv.out
     rw [hok,hnm] at hin';clear ht hok hnm;cases v with
     | false =>
      have HQ:Hid (Q=false):=by show _=_;rw [← hin'];rfl
      have HR:Hid (R=false):=by show _=_;rw [← HRQ.out,HQ.out];rfl
      clear hin'
      go_wp2_with fail;rw [← hW1.out];refine (zCU s.name W1 hsn false hv).mono ?_
      rintro e w2 ⟨rfl,hb2⟩;have b0:w2.cell? ⟨wr.heap.size,0,none⟩=some (.int .i64 s.axis):=(hb2.cell hz1).trans (HY.out 0 _ rfl)
      have b1:w2.cell? ⟨wr.heap.size,1,none⟩=some (.int .i64 s.test):=(hb2.cell hz1).trans (HY.out 1 _ rfl)
      have b2:w2.cell? ⟨wr.heap.size,2,none⟩=some (.string ⟨s.name.toArray⟩):=(hb2.cell hz1).trans (HY.out 2 _ rfl)
      have b3:w2.cell? ⟨wr.heap.size,3,none⟩=some (.slice A' s.preds.length c'):=(hb2.cell hz1).trans (HY.out 3 _ rfl)
      have HB2:Hid (Below w.heap.size w w2):=HB1.out.trans (hb2.mono HB1.out.size)
      have hz2:wr.heap.size<w2.heap.size:=Nat.lt_of_lt_of_le hz1 hb2.size
      have HB3:Hid (w2.cell? ⟨wr.heap.size,3,none⟩=some (.slice A' s.preds.length c')):=b3
      clear hb2 hb1 c0 c1 c2 c3
      go_wp2_with fail
      go_ret;exact ⟨by rw [HR.out];rfl,HB2.out⟩
     | true =>
      obtain ⟨Q2,hQ2⟩:∃ Q2,Hid (s.preds.all predB=Q2):=⟨_,rfl⟩
      rw [Bool.true_and,hQ2.out] at hin'
      go_wp2_with fail;rw [← hW1.out];refine (zCU s.name W1 hsn true hv).mono ?_
      rintro e w2 ⟨rfl,hb2⟩;have b0:w2.cell? ⟨wr.heap.size,0,none⟩=some (.int .i64 s.axis):=(hb2.cell hz1).trans (HY.out 0 _ rfl)
      have b1:w2.cell? ⟨wr.heap.size,1,none⟩=some (.int .i64 s.test):=(hb2.cell hz1).trans (HY.out 1 _ rfl)
      have b2:w2.cell? ⟨wr.heap.size,2,none⟩=some (.string ⟨s.name.toArray⟩):=(hb2.cell hz1).trans (HY.out 2 _ rfl)
      have b3:w2.cell? ⟨wr.heap.size,3,none⟩=some (.slice A' s.preds.length c'):=(hb2.cell hz1).trans (HY.out 3 _ rfl)
      have HB2:Hid (Below w.heap.size w w2):=HB1.out.trans (hb2.mono HB1.out.size)
      have hz2:wr.heap.size<w2.heap.size:=Nat.lt_of_lt_of_le hz1 hb2.size
      have HB3:Hid (w2.cell? ⟨wr.heap.size,3,none⟩=some (.slice A' s.preds.length c')):=b3
      clear hb2 hb1 c0 c1 c2 c3
      go_wp2_with fail;clear b0 b1 b2 b3;obtain ⟨q,hq⟩:∃ q,Hid (wr.heap.size=q):=⟨_,rfl⟩
      have H3:Hid (w2.cell? ⟨q,3,none⟩=some (.slice A' s.preds.length c')):=by show _=_;rw [← hq.out];exact HB3.out
      rw [hq.out];have HZ:q<w2.heap.size:=by rw [← hq.out];exact hz2
      go_loopw [5] (fun i wq=>∃ (m:Nat),m≤s.preds.length∧i=.int .i64 (m:Int)∧Hid ((s.preds.drop m).all predB=Q2)∧Hid (Below w2.heap.size w2 wq)) (fun i _=>s.preds.length-(intOf i).toNat)
      case atStart=>exact ⟨0,Nat.zero_le _,by go_num,hQ2.out,Below.refl _ _⟩
      case round =>
       rename_i wq0 _
       obtain ⟨m,hml,rfl,hin2,hbq0⟩:=hrel
       have hbq:Hid (Below w.heap.size w wr):=HB2.out.trans (hbq0.out.mono HB2.out.size)
       have hc3:wr.cell? ⟨q,3,none⟩=some (.slice A' s.preds.length c'):=(hbq0.out.cell (p:=⟨q,3,none⟩) HZ).trans H3.out
       have m0:(0:Int)≤(m:Int):=by omega
       by_cases hmt:m<s.preds.length
       ·obtain ⟨pd,rfl,_⟩:=HPA.out (by omega)
        obtain ⟨x,hx⟩:∃ x,Hid (s.preds[m]? = some x):=⟨s.preds[m],List.getElem?_eq_getElem _⟩
        obtain ⟨pd',he',hpb,hpc'⟩:=HPA.out (by omega)
        injection he' with he'
        subst he';obtain ⟨p0,p1,p2,p3⟩:=hpc' m x hx.out
        have q0:=(hbq.out.cell (p:=pd.add (m * 4)) (by rw [zAD];exact hpb)).trans p0
        have q1:=(hbq.out.cell (p:=⟨(pd.add (m * 4)).block,(pd.add (m * 4)).off+1,none⟩) (by show (pd.add _).block<_;rw [zAD];exact hpb)).trans p1
        have q2:=(hbq.out.cell (p:=⟨(pd.add (m * 4)).block,(pd.add (m * 4)).off+2,none⟩) (by show (pd.add _).block<_;rw [zAD];exact hpb)).trans p2
        have q3:=(hbq.out.cell (p:=⟨(pd.add (m * 4)).block,(pd.add (m * 4)).off+3,none⟩) (by show (pd.add _).block<_;rw [zAD];exact hpb)).trans p3
        have m1:(m:Int)<s.preds.length:=by omega
        obtain ⟨v,hv⟩:∃ v,Hid (predB x=v):=⟨_,rfl⟩
        have hin3:=hin2.out
        rw [zAY hx.out,List.all_cons,hv.out] at hin3;clear p0 p1 p2 p3 hpc' hin2
        go_wp2_with fail;refine (zFA x _ (HSM.out x (List.mem_of_getElem? hx.out)) v hv).mono ?_
        rintro e w8 ⟨rfl,hb8⟩;have hb9:Hid (Below w.heap.size w w8):=hbq.out.trans (hb8.mono hbq.out.size)
        have hb10:Hid (Below w2.heap.size w2 w8):=hbq0.out.trans (hb8.mono hbq0.out.size)
        clear q0 q1 q2 q3 hb8 hc3;cases v with
        | false =>
         have HR:Hid (R=false):=by
          show _=_
          rw [← HRQ.out,← hin',← hin3];rfl
         go_wp2_with fail
         go_ret;exact ⟨by rw [HR.out];rfl,hb9.out⟩
        | true =>
         have HIN3:Hid ((s.preds.drop (m+1)).all predB=Q2):=by show _=_;rw [← hin3];rfl
         go_wp2_with fail
         go_roundw
         case rel=>exact ⟨m+1,by omega,by go_num,HIN3,hb10.out⟩
         case measure=>simp [intOf];omega
       ·have HQ2:Hid (Q2=true):=by
         show _=_
         rw [← hin2.out,List.drop_eq_nil_of_le (by omega)];rfl
        have HIN:Hid ((l.drop (n+1)).all stepB=Q):=by show _=_;rw [← hin',HQ2.out];rfl
        have m1:(s.preds.length:Int)≤m:=by omega
        clear hin2
        go_wp2_with fail
        go_roundw
        case rel=>exact ⟨n+1,by omega,by go_num,HIN,hbq.out⟩
        case measure=>simp [intOf];omega
    ·have t1:(s.test == 1)=false:=by simpa using ht
     have t2:(s.test != 1)=true:=by simpa using ht
     have hnm:nameB s=decide (s.name=[]):=by unfold nameB;rw [if_neg ht]
     rw [hok,hnm] at hin';clear hok hnm ht;by_cases hn0:s.name=[]
     ·obtain ⟨Q2,hQ2⟩:∃ Q2,Hid (s.preds.all predB=Q2):=⟨_,rfl⟩
      rw [decide_eq_true hn0,Bool.true_and,hQ2.out] at hin';have HY3:Hid (W1.cell? ⟨wr.heap.size,3,none⟩=some (.slice A' s.preds.length c')):=HY.out 3 _ rfl
      rw [hn0] at c2 hW1
      go_wp2_with fail;rw [← hW1.out];clear c0 c1 c2 c3;obtain ⟨q,hq⟩:∃ q,Hid (wr.heap.size=q):=⟨_,rfl⟩
      have H3:Hid (W1.cell? ⟨q,3,none⟩=some (.slice A' s.preds.length c')):=by show _=_;rw [← hq.out];exact HY3.out
      rw [hq.out];have HZ:q<W1.heap.size:=by rw [← hq.out];exact hz1
      go_loopw [5] (fun i wq=>∃ (m:Nat),m≤s.preds.length∧i=.int .i64 (m:Int)∧Hid ((s.preds.drop m).all predB=Q2)∧Hid (Below W1.heap.size W1 wq)) (fun i _=>s.preds.length-(intOf i).toNat)
      case atStart=>exact ⟨0,Nat.zero_le _,by go_num,hQ2.out,Below.refl _ _⟩
      case round =>
       rename_i wq0 _
       obtain ⟨m,hml,rfl,hin2,hbq0⟩:=hrel
       have hbq:Hid (Below w.heap.size w wr):=HB1.out.trans (hbq0.out.mono HB1.out.size)
       have hc3:wr.cell? ⟨q,3,none⟩=some (.slice A' s.preds.length c'):=(hbq0.out.cell (p:=⟨q,3,none⟩) HZ).trans H3.out
       have m0:(0:Int)≤(m:Int):=by omega
       by_cases hmt:m<s.preds.length
       ·obtain ⟨pd,rfl,_⟩:=HPA.out (by omega)
        obtain ⟨x,hx⟩:∃ x,Hid (s.preds[m]? = some x):=⟨s.preds[m],List.getElem?_eq_getElem _⟩
        obtain ⟨pd',he',hpb,hpc'⟩:=HPA.out (by omega)
        injection he' with he'
        subst he';obtain ⟨p0,p1,p2,p3⟩:=hpc' m x hx.out
        have q0:=(hbq.out.cell (p:=pd.add (m * 4)) (by rw [zAD];exact hpb)).trans p0
        have q1:=(hbq.out.cell (p:=⟨(pd.add (m * 4)).block,(pd.add (m * 4)).off+1,none⟩) (by show (pd.add _).block<_;rw [zAD];exact hpb)).trans p1
        have q2:=(hbq.out.cell (p:=⟨(pd.add (m * 4)).block,(pd.add (m * 4)).off+2,none⟩) (by show (pd.add _).block<_;rw [zAD];exact hpb)).trans p2
        have q3:=(hbq.out.cell (p:=⟨(pd.add (m * 4)).block,(pd.add (m * 4)).off+3,none⟩) (by show (pd.add _).block<_;rw [zAD];exact hpb)).trans p3
        have m1:(m:Int)<s.preds.length:=by omega
        obtain ⟨v,hv⟩:∃ v,Hid (predB x=v):=⟨_,rfl⟩
        have hin3:=hin2.out
        rw [zAY hx.out,List.all_cons,hv.out] at hin3;clear p0 p1 p2 p3 hpc' hin2
        go_wp2_with fail;refine (zFA x _ (HSM.out x (List.mem_of_getElem? hx.out)) v hv).mono ?_
        rintro e w8 ⟨rfl,hb8⟩;have hb9:Hid (Below w.heap.size w w8):=hbq.out.trans (hb8.mono hbq.out.size)
        have hb10:Hid (Below W1.heap.size W1 w8):=hbq0.out.trans (hb8.mono hbq0.out.size)
        clear q0 q1 q2 q3 hb8 hc3;cases v with
        | false =>
         have HR:Hid (R=false):=by
          show _=_
          rw [← HRQ.out,← hin',← hin3];rfl
         go_wp2_with fail
         go_ret;exact ⟨by rw [HR.out];rfl,hb9.out⟩
        | true =>
         have HIN3:Hid ((s.preds.drop (m+1)).all predB=Q2):=by show _=_;rw [← hin3];rfl
         go_wp2_with fail
         go_roundw
         case rel=>exact ⟨m+1,by omega,by go_num,HIN3,hb10.out⟩
         case measure=>simp [intOf];omega
       ·have HQ2:Hid (Q2=true):=by
         show _=_
         rw [← hin2.out,List.drop_eq_nil_of_le (by omega)];rfl
        have HIN:Hid ((l.drop (n+1)).all stepB=Q):=by show _=_;rw [← hin',HQ2.out];rfl
        have m1:(s.preds.length:Int)≤m:=by omega
        clear hin2
        go_wp2_with fail
        go_roundw
        case rel=>exact ⟨n+1,by omega,by go_num,HIN,hbq.out⟩
        case measure=>simp [intOf];omega
     ·have HQ:Hid (Q=false):=by show _=_;rw [← hin',decide_eq_false hn0];rfl
      have hne:s.name.isEmpty=false:=by
       cases hs0:s.name with
       | nil=>exact absurd hs0 hn0
       | cons _ _=>rfl
      have HR:Hid (R=false):=by show _=_;rw [← HRQ.out,HQ.out];rfl
      clear hin'
      go_wp2_with fail
      go_ret;exact ⟨by rw [HR.out];rfl,hbelH.out.alloc hbelH.out.size _⟩
   ·have hok:headB s=false:=by
     unfold headB;rw [Bool.eq_false_iff];intro h;simp only [Bool.and_eq_true,decide_eq_true_eq] at h;exact h0 ⟨h.1.1.1,h.1.1.2,h.2⟩
    have HQ:Hid (Q=false):=by show _=_;rw [← hin',hok];rfl
    have HR:Hid (R=false):=by show _=_;rw [← HRQ.out,HQ.out];rfl
    have H0:=Lib.hid h0
    clear hin' h0 hok
    go_wp2_with fail
    all_goals first
     | (go_ret;exact ⟨by rw [HR.out];rfl,hbelH.out.alloc hbelH.out.size _⟩)
     | (exfalso;have:=H0.out;omega)
  ·have HQ:Hid (Q=true):=by
    show _=_
    rw [← hin.out,List.drop_eq_nil_of_le (by omega)];rfl
   have hRl:(decide (1≤l.length∧l.length≤20))=R:=by rw [← HRQ.out,HQ.out];rfl
   have j1:(l.length:Int)≤n:=by omega
   clear hin;by_cases h1:1≤l.length
   ·by_cases h2:l.length≤20
    ·have HR:Hid (R=true):=by show _=_;rw [← hRl];simp;omega
     have k1:(1:Int)≤l.length:=by omega
     have k2:(l.length:Int)≤20:=by omega
     clear hRl h1 h2
     go_wp2_with fail
     go_ret;exact ⟨by rw [HR.out];rfl,hbelH.out⟩
    ·have HR:Hid (R=false):=by show _=_;rw [← hRl];simp;omega
     have k1:(1:Int)≤l.length:=by omega
     have k2:decide ((l.length:Int)≤20)=false:=decide_eq_false (by omega)
     clear hRl h1 h2
     go_wp2_with fail
     go_ret;exact ⟨by rw [HR.out];rfl,hbelH.out⟩
   ·have HR:Hid (R=false):=by show _=_;rw [← hRl];simp;omega
    have k1:(l.length:Int)<1:=by omega
    clear hRl h1
    go_wp2_with fail
    go_ret;exact ⟨by rw [HR.out];rfl,hbelH.out⟩
end
section
open Go.RowKit Go.Shelf
theorem zDi:∀ (N:Nat) (l:List Nat),l.Nodup→(∀ x∈l,x<N)→l.length≤N
 | 0,l,_,h=>by
  cases l with
  | nil=>simp
  | cons a r=>have:=h a List.mem_cons_self;omega
 | N+1,l,hn,h=>by
  by_cases hm:N∈l
  ·have h1:=zDi N (l.erase N) (hn.erase N) (fun x hx=>by
    have h2:=h x (List.mem_of_mem_erase hx)
    have h3:=(hn.mem_erase_iff.1 hx).1
    omega)
   rw [List.length_erase_of_mem hm] at h1;omega
  ·have h1:=zDi N l hn (fun x hx=>by
    have h2:=h x hx
    have h3:x≠N:=fun e=>hm (e ▸ hx)
    omega)
   omega
theorem zGN:∀ (l a b:List Nat),joinN l (a++b)=joinN (joinN l a) b
 | l,[],b=>rfl
 | l,x :: a,b=>by rw [List.cons_append,joinN,joinN,zGN]
theorem zCZ:∀ (l r:List Nat),l.Nodup→(joinN l r).Nodup
 | l,[],h=>h
 | l,x :: r,h=>by
  rw [joinN];refine zCZ _ r ?_
  split
  ·exact h
  ·rename_i hx
   rw [List.nodup_append];exact ⟨h,by simp,fun a ha b hb e=>hx (by rw [List.mem_singleton.1 hb] at e;rw [← e];exact ha)⟩
theorem zGW (L:List RowD) (s:StepD):∀ (acc a b:List Nat),nextN L s acc (a++b)=nextN L s (nextN L s acc a) b
 | acc,[],b=>rfl
 | acc,k :: a,b=>by rw [List.cons_append,nextN,nextN,zGW L s]
theorem zCa (L:List RowD) (s:StepD):∀ (acc a:List Nat),acc.Nodup→(nextN L s acc a).Nodup
 | acc,[],h=>h
 | acc,k :: a,h=>by rw [nextN];exact zCa L s _ a (zCZ _ _ h)
theorem zH3 (L:List RowD) (s:StepD) (k:Nat):∀ y∈stepN L s k,y<L.length:=fun y hy=>by
 rw [zFn] at hy;have:=(List.mem_filter.1 (zDN L _ _ y hy)).1
 unfold ordN at this
 split at this
 ·exact List.mem_range.1 (List.mem_reverse.1 this)
 ·exact List.mem_range.1 this
theorem zKN (L:List RowD) (s:StepD) (k:Nat):(stepN L s k).length≤L.length:=by
 rw [zFn];have h1:=zDM L s.preds ((ordN s.axis L.length).filter (keepN L s k))
 have h2:=List.length_filter_le (keepN L s k) (ordN s.axis L.length)
 rw [zFc] at h2;omega
theorem zKz {N:Nat} {l r:List Nat} (h:∀ y∈l,y<N) (h':∀ y∈r,y<N):∀ y∈joinN l r,y<N:=fun y hy=>by
 rcases (zFY l r y).1 hy with hy | hy
 ·exact h y hy
 ·exact h' y hy
theorem zHt (L:List RowD) (s:StepD) (acc F:List Nat) (h:∀ y∈acc,y<L.length):∀ y∈nextN L s acc F,y<L.length:=fun y hy=>by
 rcases (zDh L s F acc y).1 hy with hy | ⟨k,_,hy⟩
 ·exact h y hy
 ·exact zH3 L s k y hy
theorem zEr (L:List RowD):∀ (a b:List StepD) (F:List Nat),foundN L (a++b) F=foundN L b (foundN L a F)
 | [],_,_=>rfl
 | s :: a,b,F=>by rw [List.cons_append,foundN,foundN,zEr L a b]
theorem zGG (L:List RowD):∀ (a:List StepD) (F:List Nat),F.Nodup→(∀ y∈F,y<L.length)→(foundN L a F).Nodup ∧ ∀ y∈foundN L a F,y<L.length
 | [],F,h,h'=>⟨h,h'⟩
 | s :: a,F,h,h'=>by rw [foundN];exact zGG L a _ (zCa L s [] F (by simp)) (zHt L s [] F (by simp))
theorem zFW (l:List Nat) (x:Nat):(x:Int)∈ints l ↔ x∈l:=by
 unfold ints;rw [List.mem_map]
 constructor
 ·rintro ⟨y,hy,e⟩;rw [← Int.ofNat_inj.1 e];exact hy
 ·intro h;exact ⟨x,h,rfl⟩
theorem zI2 (L:List RowD) (A:Option Addr) (c:Nat) (next:Int) (w:World) (hT:TreeR (fun _=>True) w A c L) (hs:SmallRows (rowsL L)) (hlen:L.length≤1000) (l:List StepD) (As:Option Addr) (cs:Nat) (hA:StepsAt w w.heap.size As l) (hss:SmallSteps l) :
  Calls Tryz.prog 14 #[.agg #[.slice A L.length c,.int .i64 next],.slice As l.length cs] w fun e w'=>∃ A' c',e=.returned (.tuple #[.slice A' (evalN L l).length c',.bool (rightL l)])∧intRow w' (.slice A' (evalN L l).length c') (evalN L l)∧Below w.heap.size w w':=by
 have HT:=Lib.hid hT
 have HS:=Lib.hid hs
 have HA:=Lib.hid hA
 have HSS:=Lib.hid hss
 obtain ⟨R,hR⟩:∃ R,Hid (rightL l=R):=⟨_,rfl⟩
 obtain ⟨w1,hw1⟩:∃ w1,Hid (w.alloc (.cells #[.slice A L.length c,.int .i64 next] 27)=w1):=⟨_,rfl⟩
 have hb1:Below w.heap.size w w1:=by rw [← hw1.out];exact (Below.refl _ w).alloc (Nat.le_refl _) _
 have HX1:Hid (w1.heap[w.heap.size]? = some (.cells #[.slice A L.length c,.int .i64 next] 27 (0,0))):=by show _=_;rw [← hw1.out];exact heap_alloc_new w _
 have HB1:=Lib.hid hb1
 clear hT hs hA hss hb1;cases R with
 | false =>
  have HE:Hid (evalN L l=[]):=by show _=_;unfold evalN;rw [hR.out];rfl
  go_enter Tryz.func14,Tryz.ntmps14
  go_upto_region 1 with (fail)
  rw [hw1.out]
  go_wp2_with fail;refine (zEh l As cs w1 ((HA.out.below HB1.out).more HB1.out.size) HSS.out false hR).mono ?_
  rintro e w2 ⟨rfl,hb2⟩
  go_wp2_with fail
  go_ret2;rw [HE.out,hR.out];exact ⟨none,0,rfl,⟨by simp,.inl ⟨rfl,rfl⟩⟩,HB1.out.trans (hb2.mono HB1.out.size)⟩
 | true =>
  obtain ⟨hl20,hp5⟩:=zEQ hR.out
  have HP5:=Lib.hid hp5
  have HK:Hid (∀ s∈l,StepK s):=fun s hs=>by
   have hr:=hR.out
   unfold rightL at hr;simp only [Bool.and_eq_true,List.all_eq_true] at hr;have:=hr.1 s hs
   unfold stepB at this;simp only [Bool.and_eq_true,decide_eq_true_eq] at this;exact ⟨this.1.1.1.1,this.1.1.1.2⟩
  clear hp5;have l0:(0:Int)≤(l.length:Int):=by omega
  have l1:(l.length:Int)≤20:=by omega
  go_enter Tryz.func14,Tryz.ntmps14
  go_upto_region 1 with (fail)
  rw [hw1.out]
  go_wp2_with fail;refine (zEh l As cs w1 ((HA.out.below HB1.out).more HB1.out.size) HSS.out true hR).mono ?_
  rintro e w2 ⟨rfl,hb2⟩;have HB2:=Lib.hid (HB1.out.trans (hb2.mono HB1.out.size))
  have hx2:=(hb2.block _ (Array.getElem?_eq_some_iff.1 HX1.out).1).trans HX1.out
  have t0:w2.cell? ⟨w.heap.size,0,none⟩=some (.slice A L.length c):=zAA hx2 0 _ rfl
  have t1:w2.cell? ⟨w.heap.size,1,none⟩=some (.int .i64 next):=zAA hx2 1 _ rfl
  clear hb2 hx2
  go_wp2_with fail;refine (zKF L A c next w2 (HT.out.below HB2.out) (by omega)).mono ?_
  rintro e w3 ⟨Ar,cr,rfl,htr,hb3⟩;have HB3:=Lib.hid (HB2.out.trans (hb3.mono HB2.out.size))
  obtain ⟨N,hN⟩:∃ N,Hid ((rowsL L).length=N):=⟨_,rfl⟩
  have hNl:N≤1001:=by rw [← hN.out];simp [rowsL];omega
  have HN1:Hid (1≤N):=by show _≤_;rw [← hN.out];simp [rowsL]
  rw [hN.out];have N0:(0:Int)≤(N:Int):=by omega
  have N1:(N:Int)≤1001:=by omega
  have HTR:=Lib.hid htr
  clear hb3 htr t0 t1
  go_wp2_with fail;obtain ⟨w4,hw4⟩:∃ w4,Hid (w3.alloc (.cells #[.int .i64 0] 3)=w4):=⟨_,rfl⟩
  have hb4:Below w3.heap.size w3 w4:=by rw [← hw4.out];exact (Below.refl _ w3).alloc (Nat.le_refl _) _
  have HB4:=Lib.hid (HB3.out.trans (hb4.mono HB3.out.size))
  have HR4:Hid (intRow w4 (.slice (some ⟨w3.heap.size,0,none⟩) (ints [0]).length 1) (ints [0])):=by show intRow _ _ _;rw [← hw4.out];exact zE9 (heap_alloc_new w3 _) (Nat.le_refl _) (by decide) rfl rfl
  have HTR4:=Lib.hid (HTR.out.below hb4)
  obtain ⟨ad,hAd,_⟩:=HTR4.out.1 (by rw [hN.out];have:=HN1.out;omega)
  subst hAd;rw [hw4.out];clear hb4
  go_loopw [7,8] (fun o i wr=>∃ (q:Nat) (A5:Option Addr) (c5:Nat) (F:List Nat),q≤l.length∧i=.int .i64 (q:Int)∧o=.slice A5 (ints F).length c5∧Hid (F=foundN (rowsL L) (l.take q) [0])∧Hid (intRow wr (.slice A5 (ints F).length c5) (ints F))∧Hid (Below w4.heap.size w4 wr)) (fun _ i _=>l.length-(intOf i).toNat)
  case atStart=>exact ⟨0,_,1,[0],Nat.zero_le _,rfl,rfl,rfl,HR4.out,Below.refl _ _⟩
  case round =>
   obtain ⟨q,A5,c5,F,hq,rfl,rfl,hF,hrow5,hb5⟩:=hrel
   have q0:(0:Int)≤(q:Int):=by omega
   obtain ⟨hFn,hFl⟩:=zGG (rowsL L) (l.take q) [0] (by simp) (by simp [rowsL])
   rw [← hF.out] at hFn hFl;have hFlen:=zDi _ F hFn hFl
   rw [hN.out] at hFl hFlen;have HFL:=Lib.hid hFl
   obtain ⟨n5,hn5⟩:∃ n5,Hid ((ints F).length=n5):=⟨_,rfl⟩
   have HN5:Hid (n5=F.length):=by show _=_;rw [← hn5.out,zAs]
   have hn5l:n5≤N:=by rw [HN5.out];exact hFlen
   have y0:(0:Int)≤(n5:Int):=by omega
   have y1:(n5:Int)≤1001:=by omega
   have HROW5:=Lib.hid hrow5.out
   have HB5:=Lib.hid hb5.out
   obtain ⟨W5,hW5⟩:∃ W5,W5=wr:=⟨_,rfl⟩
   subst hW5;rw [hn5.out];clear hFn hFl hFlen hrow5 hb5;by_cases hql:q<l.length
   ·have q1:(q:Int)<(l.length:Int):=by omega
    obtain ⟨s,hs⟩:∃ s,Hid (l[q]? = some s):=⟨l[q],List.getElem?_eq_getElem _⟩
    obtain ⟨sd,hsd,_⟩:=HA.out (by omega)
    subst hsd;have HNXT:Hid (foundN (rowsL L) (l.take (q+1)) [0]=nextN (rowsL L) s [] F):=by
     show _=_
     rw [List.take_add_one,hs.out,Option.toList_some,zEr,← hF.out]
     rfl
    have HW5:Hid (Below w.heap.size w W5):=HB4.out.trans (HB5.out.mono HB4.out.size)
    go_wp2_with fail
    go_loopw [9,10] (fun o i wr=>∃ (m:Nat) (A6:Option Addr) (c6:Nat) (G:List Nat),m≤n5∧i=.int .i64 (m:Int)∧o=.slice A6 (ints G).length c6∧Hid (G=nextN (rowsL L) s [] (F.take m))∧Hid (intRow wr (.slice A6 (ints G).length c6) (ints G)) ∧
     Hid (∀ b,(Value.slice A6 (ints G).length c6).ownBlock=some b→W5.heap.size≤b)∧Hid (Below W5.heap.size W5 wr)) (fun _ i _=>n5-(intOf i).toNat)
    case atStart=>exact ⟨0,none,0,[],Nat.zero_le _,rfl,rfl,rfl,⟨by simp [ints],.inl ⟨rfl,rfl⟩⟩,fun b hb=>by simp [Value.ownBlock] at hb,Below.refl _ _⟩
    case round =>
     obtain ⟨m,A6,c6,G,hm,rfl,rfl,hG,hrow6,hfr6,hb6⟩:=hrel
     have m0:(0:Int)≤(m:Int):=by omega
     by_cases hml:m<n5
     ·have m1:(m:Int)<(n5:Int):=by omega
      obtain ⟨x,hx⟩:∃ x,Hid (F[m]? = some x):=⟨_,List.getElem?_eq_getElem (by rw [← HN5.out];exact hml)⟩
      have HXL:Hid (x<N):=HFL.out x (List.mem_of_getElem? hx.out)
      have HGN:Hid (G.Nodup ∧ ∀ y∈G,y<(rowsL L).length):=by
       rw [hG.out];exact ⟨zCa _ _ _ _ (by simp),zHt _ _ _ _ (by simp)⟩
      obtain ⟨g,hgA⟩:∃ g,A5=some ⟨g,0,none⟩:=by
       rcases HROW5.out.2 with ⟨_,h⟩ | ⟨g,cap,cur,h,_⟩
       ·rw [hn5.out] at h;omega
       ·injection h with h _ _;exact ⟨g,h⟩
      subst hgA;obtain ⟨hsb,A',c',hpa,hpc,s0,s1,s2,s3⟩:=HA.out.item hs.out
      have HSV:Hid (∀ V:World,Below wr.heap.size wr V→(V.cell? (sd.add (q * 4))=some (.int .i64 s.axis)∧V.cell? ⟨(sd.add (q * 4)).block,(sd.add (q * 4)).off+1,none⟩=some (.int .i64 s.test)∧V.cell? ⟨(sd.add (q * 4)).block,(sd.add (q * 4)).off+2,none⟩=some (.string ⟨s.name.toArray⟩)∧V.cell? ⟨(sd.add (q * 4)).block,(sd.add (q * 4)).off+3,none⟩=some (.slice A' s.preds.length c'))∧V.cell? ⟨g,m,none⟩=some (.int .i64 (x:Int))):=fun V hV=>by
       have h5:Below W5.heap.size W5 V:=hb6.out.trans (hV.mono hb6.out.size)
       have h0:Below w.heap.size w V:=HW5.out.trans (h5.mono HW5.out.size)
       have hc:∀ o,V.cell? ⟨(sd.add (q * 4)).block,o,none⟩=w.cell? ⟨(sd.add (q * 4)).block,o,none⟩:=fun o=>h0.cell (by show (sd.add _).block<_;rw [zAD];exact hsb)
       have hr:intRow V (.slice (some ⟨g,0,none⟩) (ints F).length c5) (ints F):=zAC HROW5.out fun b hb=>h5.block b (zAJ HROW5.out hb)
       exact ⟨⟨(h0.cell (by rw [zAD];exact hsb)).trans s0,(hc _).trans s1,(hc _).trans s2,(hc _).trans s3⟩,zAd hr m (.int .i64 (x:Int)) (by rw [List.getElem?_map,zCt hx.out];rfl)⟩
      have HPA:=Lib.hid hpa
      have HP:=HP5.out s (List.mem_of_getElem? hs.out)
      have HSK:=(HK.out s (List.mem_of_getElem? hs.out)).1
      have HHP:=Lib.hid (And.intro HP HSK)
      have hbd:Below wr.heap.size wr wr.drew:=⟨rfl,rfl,rfl,Nat.le_refl _,fun _ _=>rfl⟩
      have xx0:(0:Int)≤(x:Int):=by omega
      clear hpa hpc s0 s1 s2 s3 hsb HP HSK
      go_wp2_with fail;refine wp_region_held_drew (S:=fun V=>(V.cell? (sd.add (q * 4))=some (.int .i64 s.axis)∧V.cell? ⟨(sd.add (q * 4)).block,(sd.add (q * 4)).off+1,none⟩=some (.int .i64 s.test)∧V.cell? ⟨(sd.add (q * 4)).block,(sd.add (q * 4)).off+2,none⟩=some (.string ⟨s.name.toArray⟩)∧V.cell? ⟨(sd.add (q * 4)).block,(sd.add (q * 4)).off+3,none⟩=some (.slice A' s.preds.length c'))∧V.cell? ⟨g,m,none⟩=some (.int .i64 (x:Int))) (by kernel_rfl) (HSV.out _ hbd) (fun hHeld=>?_)
      refine tkv 0 (h:=tkv 1 (h:=tkv 2 (h:=tkv 3 (h:=tkv 4 (h:=tkv 5 (h:=?_))))))
      refine tkv 6 (h:=tkv 7 (h:=tkv 8 (h:=?_)))
      obtain ⟨v,hv⟩:∃ v,Hid (wr.drew=v):=⟨_,rfl⟩
      rw [hv.out] at hbd hHeld ⊢;have HBD:=Lib.hid hbd
      have HBV:Hid (Below w4.heap.size w4 v):=HB5.out.trans ((hb6.out.trans (hbd.mono hb6.out.size)).mono HB5.out.size)
      have HBVW:=Lib.hid (HB4.out.trans (HBV.out.mono HB4.out.size))
      clear hbd;refine rdy 9 (fun K hK=>?_)
      go_simp
      have hst:=zKM (rowsL L) (some ad) cr s A' c' x v ((HTR4.out.1.below HBV.out).more HBV.out.size) HS.out (by rw [hN.out];exact HXL.out) HHP.out.2 ((HPA.out.below HBVW.out).more HBVW.out.size) HHP.out.1
      rw [hN.out] at hst;refine hst.mono ?_
      clear hst;obtain ⟨r,hr⟩:∃ r,Hid (stepN (rowsL L) s x=r):=⟨_,rfl⟩
      have HRL:Hid (r.length≤N ∧ ∀ y∈r,y<(rowsL L).length):=by
       rw [← hr.out,← hN.out];exact ⟨zKN _ _ _,zH3 _ _ _⟩
      rw [hr.out];rintro e v2 ⟨A7,c7,rfl,hr7,hb7,hf7⟩;have HBD2:=Lib.hid (HBD.out.trans (hb7.mono HBD.out.size))
      have HR7:=Lib.hid hr7
      obtain ⟨n7,hn7⟩:∃ n7,Hid ((ints r).length=n7):=⟨_,rfl⟩
      have HN7:Hid (n7=r.length):=by show _=_;rw [← hn7.out,zAs]
      have u0:(0:Int)≤(n7:Int):=by omega
      have u1:(n7:Int)≤1001:=by have:=HRL.out.1;have:=HN7.out;omega
      have hgb:∀ b,(Value.slice A6 (ints G).length c6).ownBlock=some b→(Value.slice A7 (ints r).length c7).ownBlock≠some b:=fun b hb h=>by
       have h1:=hf7 b h
       have h2:=zAJ hrow6.out hb
       have:=HBD.out.size
       omega
      have HGB:=Lib.hid hgb
      have HBW:=Lib.hid (hb6.out.trans (HBD2.out.mono hb6.out.size))
      have HROW6:Hid (intRow v2 (.slice A6 (ints G).length c6) (ints G)):=zAC hrow6.out fun b hb=>HBD2.out.block b (zAJ hrow6.out hb)
      rw [hn7.out];rw [hn7.out] at HGB;clear hr7 hb7 hf7 hgb;refine hK.out _ _ (HSV.out _ HBD2.out) (fun hHeld=>?_)
      clear hK K
      try go_frame
      refine tkv 10 (h:=?_)
      refine wpAnyH_done (by kernel_rfl) ?_ _
      clear hHeld
      go_wp2_with fail
      go_loopw [9,12] (fun o i wr=>∃ (v:Nat) (A8:Option Addr) (c8:Nat) (H:List Nat),v≤n7∧i=.int .i64 (v:Int)∧o=.slice A8 (ints H).length c8∧Hid (H=joinN G (r.take v))∧Hid (intRow wr (.slice A8 (ints H).length c8) (ints H)) ∧
       Hid (∀ b,(Value.slice A8 (ints H).length c8).ownBlock=some b→W5.heap.size≤b)∧Hid (∀ b,(Value.slice A8 (ints H).length c8).ownBlock=some b→(Value.slice A7 n7 c7).ownBlock≠some b)∧Hid (intRow wr (.slice A7 (ints r).length c7) (ints r))∧Hid (Below W5.heap.size W5 wr)) (fun _ i _=>n7-(intOf i).toNat)
      case atStart=>exact ⟨0,A6,c6,G,Nat.zero_le _,rfl,rfl,rfl,HROW6.out,hfr6.out,HGB.out,HR7.out,HBW.out⟩
      case round =>
       obtain ⟨u,A8,c8,H,hu,rfl,rfl,hH,hrow8,hfr8,hne8,hrow7,hb8⟩:=hrel
       have uu0:(0:Int)≤(u:Int):=by omega
       have HHN:Hid (H.Nodup ∧ ∀ y∈H,y<(rowsL L).length):=by
        rw [hH.out];exact ⟨zCZ _ _ HGN.out.1,zKz HGN.out.2 fun y hy=>HRL.out.2 y (List.mem_of_mem_take hy)⟩
       have hHl:(ints H).length≤1001:=by
        rw [zAs];have:=zDi _ H HHN.out.1 HHN.out.2
        rw [hN.out] at this;omega
       by_cases hul:u<n7
       ·have uu1:(u:Int)<(n7:Int):=by omega
        obtain ⟨y,hy⟩:∃ y,Hid (r[u]? = some y):=⟨_,List.getElem?_eq_getElem (by rw [← HN7.out];exact hul)⟩
        obtain ⟨g7,hgA⟩:∃ g,A7=some ⟨g,0,none⟩:=by
         rcases HR7.out.2 with ⟨_,h⟩ | ⟨g,cap,cur,h,_⟩
         ·rw [hn7.out] at h;omega
         ·injection h with h _ _;exact ⟨g,h⟩
        subst hgA;have cy:wr.cell? ⟨g7,u,none⟩=some (.int .i64 (y:Int)):=zAd hrow7.out u (.int .i64 (y:Int)) (by rw [List.getElem?_map,zCt hy.out];rfl)
        obtain ⟨HS8,hHS8⟩:∃ b,Hid (decide ((y:Int)∈ints H)=b):=⟨_,rfl⟩
        have HSN:Hid (joinN G (r.take (u+1))=if HS8=true then H else H++[y]):=by
         show _=_
         rw [List.take_add_one,hy.out,Option.toList_some,zGN,← hH.out,joinN,joinN,← hHS8.out];by_cases e:y∈H
         ·simp [zFW,e]
         ·simp [zFW,e]
        go_wp2_with fail;refine (zHm A8 c8 (ints H) (y:Int) wr hrow8.out (by omega) HS8 hHS8).mono ?_
        rintro e v3 ⟨rfl,hb9⟩;have HB9:=Lib.hid hb9
        have HBW3:=Lib.hid (hb8.out.trans (hb9.mono hb8.out.size))
        have HR73:Hid (intRow v3 (.slice (some ⟨g7,0,none⟩) (ints r).length c7) (ints r)):=zAC hrow7.out fun b hb=>hb9.block b (zAJ hrow7.out hb)
        have HR83:Hid (intRow v3 (.slice A8 (ints H).length c8) (ints H)):=zAC hrow8.out fun b hb=>hb9.block b (zAJ hrow8.out hb)
        have cy3:v3.cell? ⟨g7,u,none⟩=some (.int .i64 (y:Int)):=zAd HR73.out u (.int .i64 (y:Int)) (by rw [List.getElem?_map,zCt hy.out];rfl)
        clear hb9 cy;cases HS8 with
        | true =>
         have HN:Hid (H=joinN G (r.take (u+1))):=by show _=_;rw [HSN.out];simp
         go_wp2_with fail
         go_roundw
         case rel=>exact ⟨u+1,A8,c8,H,by omega,by go_num,rfl,HN.out,HR83.out,hfr8.out,hne8.out,HR73.out,HBW3.out⟩
         case measure=>simp [intOf];omega
        | false =>
         have HN:Hid (H++[y]=joinN G (r.take (u+1))):=by show _=_;rw [HSN.out];simp
         obtain ⟨pa,pn,pc,w9,hr9,hpn,hrow9,hg9,hf9⟩:=zAk HR83.out (by omega) (y:Int)
         have HB9':Hid (Below W5.heap.size W5 w9):=⟨hg9.os.trans HBW3.out.os,hg9.tape.trans HBW3.out.tape,hg9.output.trans HBW3.out.output,Nat.le_trans HBW3.out.size hg9.size,fun b hb=>(hg9.block b (Nat.lt_of_lt_of_le hb HBW3.out.size) (fun h'=>by have:=hfr8.out b h'.symm;omega)).trans (HBW3.out.block b hb)⟩
         have hia:ints H++[(y:Int)]=ints (H++[y]):=by rw [zCs];rfl
         have hpn':pn=(ints (H++[y])).length:=by rw [hpn,zAs,zAs,List.length_append];rfl
         rw [hia] at hrow9;subst hpn';have hfr9:∀ b,(Value.slice pa (ints (H++[y])).length pc).ownBlock=some b→W5.heap.size≤b:=fun b hb=>by
          rcases hf9 b hb with h' | h'
          ·exact hfr8.out b h'
          ·have:=HBW3.out.size;omega
         have hne9:∀ b,(Value.slice pa (ints (H++[y])).length pc).ownBlock=some b→(Value.slice (some ⟨g7,0,none⟩) n7 c7).ownBlock≠some b:=fun b hb h=>by
          rcases hf9 b hb with h' | h'
          ·exact hne8.out b h' h
          ·have:=zAJ HR73.out (b:=b) (by rw [hn7.out];exact h)
           omega
         have HR79:Hid (intRow w9 (.slice (some ⟨g7,0,none⟩) (ints r).length c7) (ints r)):=zAC HR73.out fun b hb=>hg9.block b (zAJ HR73.out hb) (fun e=>hne8.out b e.symm (by rw [← hn7.out];exact hb))
         have HR9:=Lib.hid hrow9
         have HF9:=Lib.hid hfr9
         have HE9:=Lib.hid hne9
         clear hrow9 hg9 hf9 hfr9 hne9 hpn hia
         go_wp2_with (at_builtin;refine zAK _ rfl _ _ 32 rfl (.slice A8 (ints H).length c8) (.slice (some ⟨v3.heap.size,0,none⟩) 1 1) (by simp [Act.eval]) (by simp [Act.eval]) hr9 ?_)
         go_roundw
         case rel=>exact ⟨u+1,pa,pc,H++[y],by omega,by go_num,rfl,HN.out,HR9.out,HF9.out,HE9.out,HR79.out,HB9'.out⟩
         case measure=>simp [intOf];omega
       ·have hum:u=n7:=by omega
        subst hum;have HN:Hid (H=nextN (rowsL L) s [] (F.take (m+1))):=by
         show _=_
         rw [List.take_add_one,hx.out,Option.toList_some,zGW,← hG.out,nextN,nextN,hr.out,hH.out,List.take_of_length_le (by have:=HN7.out;omega)]
        go_wp2_with fail
        go_roundw
        case rel=>exact ⟨m+1,A8,c8,H,by omega,by go_num,rfl,HN.out,hrow8.out,hfr8.out,hb8.out⟩
        case measure=>simp [intOf];omega
     ·have hmm:m=n5:=by omega
      subst hmm;have HN:Hid (G=foundN (rowsL L) (l.take (q+1)) [0]):=by
       show _=_
       rw [HNXT.out,hG.out,List.take_of_length_le (by have:=HN5.out;omega)]
      have HBF:Hid (Below w4.heap.size w4 wr):=HB5.out.trans (hb6.out.mono HB5.out.size)
      go_wp2_with fail
      go_roundw
      case rel=>exact ⟨q+1,A6,c6,G,by omega,by go_num,rfl,HN.out,hrow6.out,HBF.out⟩
      case measure=>simp [intOf];omega
   ·have hqm:q=l.length:=by omega
    subst hqm;have hFe:F=foundN (rowsL L) l [0]:=by rw [hF.out,List.take_length]
    have HEV:Hid (evalN L l=((List.range' 1 (N-1)).filter fun i=>decide (i∈F)).map (idL (rowsL L))):=by
     show _=_
     unfold evalN outN;rw [hR.out,if_pos rfl,hN.out,← hFe]
    clear hFe
    go_wp2_with fail
    go_loopw [13,14] (fun o i wr=>∃ (m:Nat) (A9:Option Addr) (c9:Nat) (O:List Int),m≤N-1∧i=.int .i64 ((m:Int)+1)∧o=.slice A9 O.length c9∧Hid (O=((List.range' 1 m).filter fun i=>decide (i∈F)).map (idL (rowsL L)))∧Hid (intRow wr (.slice A9 O.length c9) O) ∧
     Hid (∀ b,(Value.slice A9 O.length c9).ownBlock=some b→W5.heap.size≤b)∧Hid (Below W5.heap.size W5 wr)) (fun _ i _=>N-(intOf i).toNat)
    case atStart=>exact ⟨0,none,0,[],Nat.zero_le _,rfl,rfl,rfl,⟨by simp,.inl ⟨rfl,rfl⟩⟩,fun b hb=>by simp [Value.ownBlock] at hb,Below.refl _ _⟩
    case round =>
     obtain ⟨m,A9,c9,O,hm,rfl,rfl,hO,hrow9,hfr9,hb9⟩:=hrel
     have m0:(0:Int)≤(m:Int):=by omega
     have hOl:O.length≤1001:=by
      rw [hO.out,List.length_map];have:=List.length_filter_le (fun i=>decide (i∈F)) (List.range' 1 m)
      rw [List.length_range'] at this;omega
     have hN1:=HN1.out
     by_cases hml:m+1<N
     ·have m1:(m:Int)+1<(N:Int):=by omega
      obtain ⟨b0,hb0⟩:∃ b,Hid (decide ((m:Int)+1∈ints F)=b):=⟨_,rfl⟩
      obtain ⟨z,hz⟩:∃ z,Hid ((rowsL L)[m+1]? = some z):=⟨_,List.getElem?_eq_getElem (by rw [hN.out];exact hml)⟩
      have hid':idL (rowsL L) (m+1)=z.id:=by unfold idL;rw [hz.out]
      have HSN:Hid (((List.range' 1 (m+1)).filter fun i=>decide (i∈F)).map (idL (rowsL L))=O++if b0=true then [z.id] else []):=by
       show _=_
       rw [List.range'_concat,List.filter_append,List.map_append,← hO.out,Nat.mul_comm,Nat.mul_one,Nat.add_comm 1 m,← hb0.out];have hm1:(m:Int)+1∈ints F ↔ m+1∈F:=zFW F (m+1)
       by_cases e:m+1∈F
       ·simp [hm1,e,hid']
       ·simp [hm1,e]
      have HROWF:Hid (intRow wr (.slice A5 (ints F).length c5) (ints F)):=zAC HROW5.out fun b hb=>hb9.out.block b (zAJ HROW5.out hb)
      have hF5:(ints F).length≤1000000:=by rw [hn5.out];omega
      clear hid'
      go_wp2_with fail;have hhas:=zHm A5 c5 (ints F) ((m:Int)+1) wr HROWF.out hF5 b0 hb0
      rw [hn5.out] at hhas;refine hhas.mono ?_
      clear hhas;rintro e v3 ⟨rfl,hb10⟩;have HBW3:=Lib.hid (hb9.out.trans (hb10.mono hb9.out.size))
      have HR93:Hid (intRow v3 (.slice A9 O.length c9) O):=zAC hrow9.out fun b hb=>hb10.block b (zAJ hrow9.out hb)
      have HBV:Hid (Below w4.heap.size w4 v3):=HB5.out.trans (HBW3.out.mono HB5.out.size)
      clear hb10;cases b0 with
      | false =>
       have HN:Hid (O=((List.range' 1 (m+1)).filter fun i=>decide (i∈F)).map (idL (rowsL L))):=by show _=_;rw [HSN.out];simp
       go_wp2_with fail
       go_roundw
       case rel=>exact ⟨m+1,A9,c9,O,by omega,by go_num,rfl,HN.out,HR93.out,hfr9.out,HBW3.out⟩
       case measure=>simp [intOf];omega
      | true =>
       have HN:Hid (O++[z.id]=((List.range' 1 (m+1)).filter fun i=>decide (i∈F)).map (idL (rowsL L))):=by show _=_;rw [HSN.out];simp
       obtain ⟨_,Az,cz,_,_,k0,_⟩:=(HTR4.out.1.below HBV.out).row hz.out
       have k0':v3.cell? ⟨(ad.add ((m+1) * 6)).block,(ad.add ((m+1) * 6)).off,(ad.add ((m+1) * 6)).spot⟩=some (.int .i64 z.id):=k0
       obtain ⟨pa,pn,pc,w9,hr9,hpn,hrow10,hg9,hf9⟩:=zAk HR93.out (by omega) z.id
       subst hpn;have HB10:Hid (Below W5.heap.size W5 w9):=⟨hg9.os.trans HBW3.out.os,hg9.tape.trans HBW3.out.tape,hg9.output.trans HBW3.out.output,Nat.le_trans HBW3.out.size hg9.size,fun b hb=>(hg9.block b (Nat.lt_of_lt_of_le hb HBW3.out.size) (fun h'=>by have:=hfr9.out b h'.symm;omega)).trans (HBW3.out.block b hb)⟩
       have hfr10:∀ b,(Value.slice pa (O.length+1) pc).ownBlock=some b→W5.heap.size≤b:=fun b hb=>by
        rcases hf9 b hb with h' | h'
        ·exact hfr9.out b h'
        ·have:=HBW3.out.size;omega
       have HR10:=Lib.hid hrow10
       have HF10:=Lib.hid hfr10
       clear hrow10 hg9 hf9 hfr10 k0'
       go_wp2_with (at_builtin;refine zAK _ rfl _ _ 32 rfl (.slice A9 O.length c9) (.slice (some ⟨v3.heap.size,0,none⟩) 1 1) (by simp [Act.eval]) (by simp [Act.eval]) hr9 ?_)
       go_roundw
       case rel=>exact ⟨m+1,pa,pc,O++[z.id],by omega,by go_num,by simp,HN.out,by show intRow _ _ _;simpa using HR10.out,by show ∀ b,_;simpa using HF10.out,HB10.out⟩
       case measure=>simp [intOf];omega
     ·have hmm:m=N-1:=by omega
      have HF:Hid (evalN L l=O):=by
       show _=_
       rw [HEV.out,hO.out,hmm]
      have m1:¬ (m:Int)+1<(N:Int):=by omega
      have HBF:Hid (Below w.heap.size w wr):=HB4.out.trans ((HB5.out.trans (hb9.out.mono HB5.out.size)).mono HB4.out.size)
      go_wp2_with fail
      go_ret2;rw [HF.out,hR.out];exact ⟨A9,c9,rfl,hrow9.out,HBF.out⟩
end
section
open Go.RowKit Go.Shelf
theorem zHT {f:Fo} {next:Int} (h:InvF f next):SmallRows (rowsL (f.flat 0)):=by
 obtain ⟨h1,h2⟩:=h.rows
 have:=h.cnt
 refine ⟨by simp [rowsL,Fo.flat_len];omega,fun r hr=>?_⟩
 rcases List.mem_cons.1 hr with rfl | hr
 ·exact ⟨⟨by decide,by decide⟩,by decide,by decide,by decide⟩
 ·exact h2 r hr
end
section
def numF (base:Int) (c:Int) (ds:List UInt8):Int:=ds.foldl (fun c x=>c * base+digitV base x.toNat) c
def digs (base:Int) (ds:List UInt8):Bool:=ds.all (fun x=>decide (0≤digitV base x.toNat))
def numR (base:Int) (ds:List UInt8):Int:=if digs base ds=true∧1≤ds.length∧ds.length≤7 then numF base 0 ds else -1
def no59 (x:UInt8):Bool:=x != 59
def endRf (l:List UInt8):Nat:=((l.take 12).takeWhile no59).length
def refR (l:List UInt8):Int × Nat :=
 if pre [38,97,109,112,59] l then (38,5)
 else if pre [38,108,116,59] l then (60,4)
 else if pre [38,103,116,59] l then (62,4)
 else if pre [38,113,117,111,116,59] l then (34,6)
 else if pre [38,97,112,111,115,59] l then (39,6)
 else
  let e:=endRf l
  if e=l.length∨e=12∨pre [38,35] l=false then (0,0)
  else
   let n:=if pre [38,35,120] l then numR 16 ((l.take e).drop 3) else numR 10 ((l.take e).drop 2)
   if n<0 then (0,0) else (n,e+1)
theorem zGo (base:Int):∀ (r:List UInt8) (k:Nat) (c:Int),k≤7 →
  scanL base k c r=if (r.takeWhile no59).length<r.length∧digs base (r.takeWhile no59)=true∧1≤k+(r.takeWhile no59).length∧k+(r.takeWhile no59).length≤7 then some (numF base c (r.takeWhile no59),k+(r.takeWhile no59).length) else none:=by
 have d59:digitV base ((59:UInt8).toNat) = -1:=by
  show digitV base 59 = -1
  unfold digitV
  repeat (first | split | omega)
 intro r
 induction r with
 | nil=>intro k c hk;simp [scanL]
 | cons x r ih =>
  intro k c hk;by_cases hx:x=59
  ·subst hx
   have ht:((59:UInt8) :: r).takeWhile no59=[]:=by simp [List.takeWhile,no59]
   rw [ht];simp only [scanL,d59];by_cases h0:0<k
   ·rw [if_pos ⟨trivial,h0⟩,if_pos ⟨by simp,rfl,by simp;omega,by simpa using hk⟩];rfl
   ·rw [if_neg (fun h=>h0 h.2),if_pos (.inl (by decide)),if_neg (fun h=>h0 (by have:=h.2.2.1;simp at this;omega))]
  ·have hn:no59 x=true:=by unfold no59;simpa using hx
   have ht:(x :: r).takeWhile no59=x :: r.takeWhile no59:=by rw [List.takeWhile_cons,if_pos hn]
   rw [ht];simp only [scanL];rw [if_neg (fun h=>hx h.1)]
   have hd:digs base (x :: r.takeWhile no59)=(decide (0≤digitV base x.toNat) && digs base (r.takeWhile no59)):=rfl
   by_cases hdk:digitV base x.toNat<0∨7≤k
   ·rw [if_pos hdk,if_neg]
    rintro ⟨_,h2,_,h4⟩;rw [hd,Bool.and_eq_true] at h2;have:=of_decide_eq_true h2.1
    simp only [List.length_cons] at h4;omega
   ·rw [if_neg hdk,ih (k+1) _ (by omega)]
    have e1:k+1+(r.takeWhile no59).length=k+(x :: r.takeWhile no59).length:=by simp;omega
    have hdx:decide (0≤digitV base x.toNat)=true:=decide_eq_true (by omega)
    have hf:numF base (c * base+digitV base x.toNat) (r.takeWhile no59)=numF base c (x :: r.takeWhile no59):=rfl
    rw [e1,hf,hd,hdx,Bool.true_and]
    congr 1
    simp only [List.length_cons,Nat.add_lt_add_iff_right]
theorem zEB (base:Int) (hb:0≤base):∀ (ds:List UInt8) (c:Int),0≤c→digs base ds=true→0≤numF base c ds:=by
 intro ds
 induction ds with
 | nil=>intro c hc _;exact hc
 | cons x ds ih =>
  intro c hc h;have hd:digs base (x :: ds)=(decide (0≤digitV base x.toNat) && digs base ds):=rfl
  rw [hd,Bool.and_eq_true] at h;have:=of_decide_eq_true h.1
  have hm:=Int.mul_nonneg hc hb
  exact ih (c * base+digitV base x.toNat) (by omega) h.2
theorem zEf (p:UInt8→Bool):∀ (l:List UInt8) (n:Nat),((l.take n).takeWhile p).length=min n (l.takeWhile p).length:=by
 intro l
 induction l with
 | nil=>intro n;simp
 | cons x l ih =>
  intro n;cases n with
  | zero=>simp
  | succ n =>
   rw [List.take_succ_cons];simp only [List.takeWhile];cases p x with
   | true=>simp only [List.length_cons,ih];omega
   | false=>simp
theorem zKC (base:Int) (hb:0≤base) (hd l:List UInt8) (r:List UInt8) (hl:l=hd++r) (h59:hd.takeWhile no59=hd) (hle:hd.length≤3) (b0:Bool) (hb0:b0=true) :
  pick hd.length (scanL base 0 0 r)=if endRf l=l.length∨endRf l=12∨b0=false then (0,0) else if numR base ((l.take (endRf l)).drop hd.length)<0 then (0,0) else (numR base ((l.take (endRf l)).drop hd.length),endRf l+1):=by
 subst hb0;have htw:l.takeWhile no59=hd++r.takeWhile no59:=by
  rw [hl];rw [List.takeWhile_append,if_pos (by rw [h59])]
 have he:endRf l=min 12 (hd.length+(r.takeWhile no59).length):=by
  unfold endRf;rw [zEf,htw,List.length_append]
 have hll:l.length=hd.length+r.length:=by rw [hl,List.length_append]
 have hdr:(r.takeWhile no59).length≤r.length:=(List.takeWhile_sublist _).length_le
 rw [zGo base r 0 0 (by omega)]
 generalize hds:r.takeWhile no59=ds at *
 by_cases h12:12≤hd.length+ds.length
 ·rw [if_neg (by omega),if_pos (.inr (.inl (by omega)))];rfl
 ·have he':endRf l=hd.length+ds.length:=by omega
  rw [he'];by_cases hend:ds.length=r.length
  ·rw [if_neg (by omega),if_pos (.inl (by omega))];rfl
  ·have hxs:(l.take (hd.length+ds.length)).drop hd.length=ds:=by
    rw [hl,List.take_append,List.drop_append];have e1:(hd.take (hd.length+ds.length)).drop hd.length=[]:=by
     rw [List.take_of_length_le (by omega)];exact List.drop_length
    rw [e1,List.take_of_length_le (l:=hd) (by omega),Nat.sub_self,List.drop_zero,Nat.add_sub_cancel_left,List.nil_append,← hds]
    exact (List.prefix_iff_eq_take.1 (List.takeWhile_prefix _)).symm
   rw [if_neg (c:=hd.length+ds.length=l.length∨_) (by simp;omega),hxs]
   unfold numR;by_cases hg:digs base ds=true∧1≤ds.length∧ds.length≤7
   ·rw [if_pos ⟨by omega,hg.1,by omega,by omega⟩,if_pos hg]
    have:=zEB base hb ds 0 (Int.le_refl _) hg.1
    rw [if_neg (by omega)]
    simp [pick]
   ·rw [if_neg (fun h=>hg ⟨h.2.1,by omega,by omega⟩),if_neg hg];rfl
theorem zMB (l:List UInt8):refR l=refL l:=by
 unfold refR refL
 split
 ·rfl
 split
 ·rfl
 split
 ·rfl
 split
 ·rfl
 split
 ·rfl
 by_cases h5:pre [38,35] l=true
 ·rw [if_pos h5]
  have hsplit:∀ p,pre p l=true→l=p++l.drop p.length:=fun p hp=>by
   have:=eq_of_beq hp
   conv=>lhs;rw [← List.take_append_drop p.length l,this]
  by_cases h6:pre [38,35,120] l=true
  ·simp only [if_pos h6]
   exact (zKC 16 (by decide) [38,35,120] l _ (hsplit _ h6) (by decide) (by decide) _ h5).symm
  ·simp only [if_neg h6]
   exact (zKC 10 (by decide) [38,35] l _ (hsplit _ h5) (by decide) (by decide) _ h5).symm
 ·have h5':pre [38,35] l=false:=by simpa using h5
  rw [if_neg h5];simp only [h5',or_true,if_true]
theorem zL9 (base:Int) (hb0:0≤base) (hb:base≤16):∀ (ds:List UInt8) (c:Int) (k:Nat),0≤c→c<16 ^ k→digs base ds=true→numF base c ds<16 ^ (k+ds.length):=by
 intro ds
 induction ds with
 | nil=>intro c k _ h _;exact h
 | cons x ds ih =>
  intro c k hc h hd;have hd':digs base (x :: ds)=(decide (0≤digitV base x.toNat) && digs base ds):=rfl
  rw [hd',Bool.and_eq_true] at hd;have h0:=of_decide_eq_true hd.1
  have h16:=(zDv base x.toNat).2
  have hm:=Int.mul_nonneg hc hb0
  have hm2:c * base≤c * 16:=Int.mul_le_mul_of_nonneg_left hb hc
  have:=ih (c * base+digitV base x.toNat) (k+1) (by omega) (by rw [Int.pow_succ];omega) hd.2
  have e:k+1+ds.length=k+(x :: ds).length:=by simp;omega
  rw [e] at this;exact this
theorem zKB (l:List UInt8):0≤(refL l).1∧(refL l).1<2147483648:=by
 have key:∀ n base r,0≤base→base≤16→0≤(pick n (scanL base 0 0 r)).1∧(pick n (scanL base 0 0 r)).1<2147483648:=by
  intro n base r h0 h1;rw [zGo base r 0 0 (by omega)]
  split
  ·rename_i h
   obtain ⟨_,hd,_,h7⟩:=h
   have h2:=zEB base h0 _ 0 (Int.le_refl _) hd
   have h3:=zL9 base h0 h1 _ 0 0 (Int.le_refl _) (by decide) hd
   have h4:(16:Int) ^ (0+(r.takeWhile no59).length)≤268435456:=by
    generalize (r.takeWhile no59).length=m at *
    rcases (by omega:m=0∨m=1∨m=2∨m=3∨m=4∨m=5∨m=6∨m=7) with rfl | rfl | rfl | rfl | rfl | rfl | rfl | rfl <;> decide
   simp only [pick];omega
  ·simp [pick]
 unfold refL
 split
 ·simp
 split
 ·simp
 split
 ·simp
 split
 ·simp
 split
 ·simp
 split
 ·split
  ·exact key 3 16 _ (by decide) (by decide)
  ·exact key 2 10 _ (by decide) (by decide)
 ·simp
end
section
open Go.RowKit
theorem zAP (s:ByteArray) (p:List UInt8) (w:World) (_hs:s.size≤maxLen) (_hp:p.length≤1000) :
  Calls Tryz.prog 156 #[.string s,.string ⟨p.toArray⟩] w fun e w'=>e=.returned (.bool (pre p s.data.toList))∧w=w':=by
 unfold maxLen at _hs;have hl:=Lib.hid (zAH s)
 by_cases hc:p.length≤s.size
 ·have hx:Hid ((s.extract 0 p.length).toList=s.data.toList.take p.length):=by
   show _=_;rw [ByteArray.toList_eq,Lib.extract_data];rfl
  have hpt:Hid (∀ (q:List UInt8),(⟨q.toArray⟩:ByteArray).toList=q):=fun q=>by rw [ByteArray.toList_eq]
  by_cases hq:((s.extract 0 p.length).toList == p)=true
  ·have hv:Hid (pre p s.data.toList=true):=by
    show _=_;unfold pre;rw [← hx.out];exact hq
   go_enter Tryz.func156,Tryz.ntmps156
   go_wp2_with fail
   go_ret;exact ⟨by rw [hv.out];rfl,rfl⟩
  ·have hq':((s.extract 0 p.length).toList == p)=false:=by simpa using hq
   clear hq;have hv:Hid (pre p s.data.toList=false):=by
    show _=_;unfold pre;rw [← hx.out];exact hq'
   go_enter Tryz.func156,Tryz.ntmps156
   go_wp2_with fail
   go_ret;exact ⟨by rw [hv.out];rfl,rfl⟩
 ·have hv:Hid (pre p s.data.toList=false):=by
   cases hh:pre p s.data.toList with
   | false=>rfl
   | true=>have:=zAU hh;have:=hl.out;omega
  have hc':s.size<p.length:=by omega
  clear hc
  go_enter Tryz.func156,Tryz.ntmps156
  go_wp2_with fail
  go_ret;exact ⟨by rw [hv.out];rfl,rfl⟩
theorem zC0 (s:ByteArray) (w:World) (hs:s.size≤12) (V:Int) (hV:Hid (V=numR 10 s.data.toList)) :
  Calls Tryz.prog 157 #[.string s,.int .i64 10] w fun e w'=>e=.returned (.int .i64 V)∧w=w':=by
 have HL:=Lib.hid (zAH s)
 go_enter Tryz.func157,Tryz.ntmps157
 go_wp2_with fail
 go_loop [5,6] (fun c i=>∃ (k:Nat) (cv:Int),k≤s.size∧i=.int .i64 k∧c=.int .i64 cv∧0≤cv∧Hid (cv<16 ^ k)∧Hid (digs 10 (s.data.toList.take k)=true)∧Hid (cv=numF 10 0 (s.data.toList.take k))) (fun _ i=>s.size-(intOf i).toNat)
 case atStart=>exact ⟨0,0,Nat.zero_le _,rfl,rfl,by omega,(by decide:(0:Int)<16 ^ 0),rfl,rfl⟩
 case round =>
  obtain ⟨k,cv,hk,rfl,rfl,hc0,hc1,hdg,hnf⟩:=hrel
  have hcv:cv<281474976710656:=by
   have:=hc1.out
   have:(16:Int) ^ k≤16 ^ 12:=by
    rcases (by omega:k=0∨k=1∨k=2∨k=3∨k=4∨k=5∨k=6∨k=7∨k=8∨k=9∨k=10∨k=11∨k=12) with rfl | rfl | rfl | rfl | rfl | rfl | rfl | rfl | rfl | rfl | rfl | rfl | rfl <;> decide
   have e:(16:Int) ^ 12=281474976710656:=by decide
   omega
  by_cases hlt:k<s.size
  ·obtain ⟨x,HX⟩:∃ x,Hid (s.data.toList[k]? = some x):=⟨s.data.toList[k]'(by have:=HL.out;omega),List.getElem?_eq_getElem _⟩
   have hsx:s[k]=x:=zAv s k x HX.out hlt
   have hx1:(x.toNat:Int)<256:=by have:=x.toNat_lt;omega
   have htk:Hid (s.data.toList.take (k+1)=s.data.toList.take k++[x]):=by
    have:=HX.out
    show _=_
    rw [List.take_add_one,this];rfl
   have hmem:Hid (x∈s.data.toList):=List.mem_of_getElem? HX.out
   rcases (by omega:(48≤(x.toNat:Int)∧(x.toNat:Int)≤57)∨(x.toNat:Int)<48∨57<(x.toNat:Int)) with ⟨hA,hA'⟩ | hB | hC
   ·have hd:Hid (digitV 10 x.toNat=(x.toNat:Int)-48):=by
     show _=_;unfold digitV;repeat (first | rw [if_pos (by omega)] | rw [if_neg (by omega)])
    have hpw:Hid (cv * 10+((x.toNat:Int)-48)<16 ^ (k+1)):=by
     have:=hc1.out
     show _<_
     rw [Int.pow_succ];omega
    go_wp2_with fail
    go_round
    case rel =>
     refine ⟨k+1,cv * 10+((x.toNat:Int)-48),by omega,by go_num,rfl,by omega,hpw,?_,?_⟩
     ·show _=_
      rw [htk.out];unfold digs;rw [List.all_append];have:=hdg.out
      unfold digs at this;rw [this];simp [hd.out];omega
     ·show _=_
      rw [htk.out,numF,List.foldl_append];show _=numF 10 0 (s.data.toList.take k) * 10+digitV 10 x.toNat
      rw [← hnf.out,hd.out]
    case measure=>simp [intOf];omega
   ·have hd:Hid (digitV 10 x.toNat = -1):=by
     show _=_;unfold digitV;repeat (first | rw [if_pos (by omega)] | rw [if_neg (by omega)])
    have hv:Hid (V = -1):=by
     show _=_
     rw [hV.out];unfold numR;rw [if_neg];rintro ⟨hall,_⟩;unfold digs at hall;rw [List.all_eq_true] at hall;have:=of_decide_eq_true (hall x hmem.out)
     rw [hd.out] at this;omega
    go_wp2_with fail
    go_ret;exact ⟨by rw [hv.out];rfl,rfl⟩
   ·have hd:Hid (digitV 10 x.toNat = -1):=by
     show _=_;unfold digitV;repeat (first | rw [if_pos (by omega)] | rw [if_neg (by omega)])
    have hv:Hid (V = -1):=by
     show _=_
     rw [hV.out];unfold numR;rw [if_neg];rintro ⟨hall,_⟩;unfold digs at hall;rw [List.all_eq_true] at hall;have:=of_decide_eq_true (hall x hmem.out)
     rw [hd.out] at this;omega
    go_wp2_with fail
    go_ret;exact ⟨by rw [hv.out];rfl,rfl⟩
  ·have hk':k=s.size:=by omega
   have hfull:s.data.toList.take k=s.data.toList:=List.take_of_length_le (by have:=HL.out;omega)
   have hdg':digs 10 s.data.toList=true:=by have:=hdg.out;rwa [hfull] at this
   have hnf':cv=numF 10 0 s.data.toList:=by have:=hnf.out;rwa [hfull] at this
   have HD:=Lib.hid hdg';have HN:=Lib.hid hnf'
   clear hfull hdg' hnf';by_cases hr:1≤s.size∧s.size≤7
   ·obtain ⟨hr1,hr7⟩:=hr
    have hv:Hid (V=cv):=by
     have:=HL.out
     show _=_
     rw [hV.out,HN.out];unfold numR;rw [if_pos ⟨HD.out,by omega,by omega⟩]
    clear hk'
    go_wp2_with fail
    go_ret;exact ⟨by rw [hv.out];rfl,rfl⟩
   ·have hv:Hid (V = -1):=by
     have:=HL.out
     show _=_
     rw [hV.out];unfold numR;rw [if_neg (fun h=>hr ⟨by omega,by omega⟩)]
    clear hk';rcases (by omega:s.size<1∨(1≤s.size∧7<s.size)) with h1 | ⟨h1,h7⟩
    ·clear hr
     go_wp2_with fail
     go_ret;exact ⟨by rw [hv.out];rfl,rfl⟩
    ·clear hr
     go_wp2_with fail
     go_ret;exact ⟨by rw [hv.out];rfl,rfl⟩
theorem zGZ (s:ByteArray) (w:World) (hs:s.size≤12) (V:Int) (hV:Hid (V=numR 16 s.data.toList)) :
  Calls Tryz.prog 157 #[.string s,.int .i64 16] w fun e w'=>e=.returned (.int .i64 V)∧w=w':=by
 have HL:=Lib.hid (zAH s)
 go_enter Tryz.func157,Tryz.ntmps157
 go_wp2_with fail
 go_loop [5,6] (fun c i=>∃ (k:Nat) (cv:Int),k≤s.size∧i=.int .i64 k∧c=.int .i64 cv∧0≤cv∧Hid (cv<16 ^ k)∧Hid (digs 16 (s.data.toList.take k)=true)∧Hid (cv=numF 16 0 (s.data.toList.take k))) (fun _ i=>s.size-(intOf i).toNat)
 case atStart=>exact ⟨0,0,Nat.zero_le _,rfl,rfl,by omega,(by decide:(0:Int)<16 ^ 0),rfl,rfl⟩
 case round =>
  obtain ⟨k,cv,hk,rfl,rfl,hc0,hc1,hdg,hnf⟩:=hrel
  have hcv:cv<281474976710656:=by
   have:=hc1.out
   have:(16:Int) ^ k≤16 ^ 12:=by
    rcases (by omega:k=0∨k=1∨k=2∨k=3∨k=4∨k=5∨k=6∨k=7∨k=8∨k=9∨k=10∨k=11∨k=12) with rfl | rfl | rfl | rfl | rfl | rfl | rfl | rfl | rfl | rfl | rfl | rfl | rfl <;> decide
   have e:(16:Int) ^ 12=281474976710656:=by decide
   omega
  by_cases hlt:k<s.size
  ·obtain ⟨x,HX⟩:∃ x,Hid (s.data.toList[k]? = some x):=⟨s.data.toList[k]'(by have:=HL.out;omega),List.getElem?_eq_getElem _⟩
   have hsx:s[k]=x:=zAv s k x HX.out hlt
   have hx1:(x.toNat:Int)<256:=by have:=x.toNat_lt;omega
   have htk:Hid (s.data.toList.take (k+1)=s.data.toList.take k++[x]):=by
    have:=HX.out
    show _=_
    rw [List.take_add_one,this];rfl
   have hmem:Hid (x∈s.data.toList):=List.mem_of_getElem? HX.out
   rcases (by omega:(48≤(x.toNat:Int)∧(x.toNat:Int)≤57)∨(97≤(x.toNat:Int)∧(x.toNat:Int)≤102)∨(65≤(x.toNat:Int)∧(x.toNat:Int)≤70)∨(x.toNat:Int)<48∨(58≤(x.toNat:Int)∧(x.toNat:Int)≤64)∨(71≤(x.toNat:Int)∧(x.toNat:Int)≤96)∨102<(x.toNat:Int)) with ⟨hA,hA'⟩ | ⟨hA,hA'⟩ | ⟨hA,hA'⟩ | hB | ⟨hB,hB'⟩ | ⟨hB,hB'⟩ | hB
   ·have hd:Hid (digitV 16 x.toNat=(x.toNat:Int)-48):=by
     show _=_;unfold digitV;repeat (first | rw [if_pos (by omega)] | rw [if_neg (by omega)])
    have hpw:Hid (cv * 16+((x.toNat:Int)-48)<16 ^ (k+1)):=by
     have:=hc1.out
     show _<_
     rw [Int.pow_succ];omega
    go_wp2_with fail
    go_round
    case rel =>
     refine ⟨k+1,cv * 16+((x.toNat:Int)-48),by omega,by go_num,rfl,by omega,hpw,?_,?_⟩
     ·show _=_
      rw [htk.out];unfold digs;rw [List.all_append];have:=hdg.out
      unfold digs at this;rw [this];simp [hd.out];omega
     ·show _=_
      rw [htk.out,numF,List.foldl_append];show _=numF 16 0 (s.data.toList.take k) * 16+digitV 16 x.toNat
      rw [← hnf.out,hd.out]
    case measure=>simp [intOf];omega
   ·have hd:Hid (digitV 16 x.toNat=(x.toNat:Int)-87):=by
     show _=_;unfold digitV;repeat (first | rw [if_pos (by omega)] | rw [if_neg (by omega)])
    have hpw:Hid (cv * 16+((x.toNat:Int)-87)<16 ^ (k+1)):=by
     have:=hc1.out
     show _<_
     rw [Int.pow_succ];omega
    go_wp2_with fail
    go_round
    case rel =>
     refine ⟨k+1,cv * 16+((x.toNat:Int)-87),by omega,by go_num,rfl,by omega,hpw,?_,?_⟩
     ·show _=_
      rw [htk.out];unfold digs;rw [List.all_append];have:=hdg.out
      unfold digs at this;rw [this];simp [hd.out];omega
     ·show _=_
      rw [htk.out,numF,List.foldl_append];show _=numF 16 0 (s.data.toList.take k) * 16+digitV 16 x.toNat
      rw [← hnf.out,hd.out]
    case measure=>simp [intOf];omega
   ·have hd:Hid (digitV 16 x.toNat=(x.toNat:Int)-55):=by
     show _=_;unfold digitV;repeat (first | rw [if_pos (by omega)] | rw [if_neg (by omega)])
    have hpw:Hid (cv * 16+((x.toNat:Int)-55)<16 ^ (k+1)):=by
     have:=hc1.out
     show _<_
     rw [Int.pow_succ];omega
    go_wp2_with fail
    go_round
    case rel =>
     refine ⟨k+1,cv * 16+((x.toNat:Int)-55),by omega,by go_num,rfl,by omega,hpw,?_,?_⟩
     ·show _=_
      rw [htk.out];unfold digs;rw [List.all_append];have:=hdg.out
      unfold digs at this;rw [this];simp [hd.out];omega
     ·show _=_
      rw [htk.out,numF,List.foldl_append];show _=numF 16 0 (s.data.toList.take k) * 16+digitV 16 x.toNat
      rw [← hnf.out,hd.out]
    case measure=>simp [intOf];omega
   ·have hd:Hid (digitV 16 x.toNat = -1):=by
     show _=_;unfold digitV;repeat (first | rw [if_pos (by omega)] | rw [if_neg (by omega)])
    have hv:Hid (V = -1):=by
     show _=_
     rw [hV.out];unfold numR;rw [if_neg];rintro ⟨hall,_⟩;unfold digs at hall;rw [List.all_eq_true] at hall;have:=of_decide_eq_true (hall x hmem.out)
     rw [hd.out] at this;omega
    go_wp2_with fail
    go_ret;exact ⟨by rw [hv.out];rfl,rfl⟩
   ·have hd:Hid (digitV 16 x.toNat = -1):=by
     show _=_;unfold digitV;repeat (first | rw [if_pos (by omega)] | rw [if_neg (by omega)])
    have hv:Hid (V = -1):=by
     show _=_
     rw [hV.out];unfold numR;rw [if_neg];rintro ⟨hall,_⟩;unfold digs at hall;rw [List.all_eq_true] at hall;have:=of_decide_eq_true (hall x hmem.out)
     rw [hd.out] at this;omega
    go_wp2_with fail
    go_ret;exact ⟨by rw [hv.out];rfl,rfl⟩
   ·have hd:Hid (digitV 16 x.toNat = -1):=by
     show _=_;unfold digitV;repeat (first | rw [if_pos (by omega)] | rw [if_neg (by omega)])
    have hv:Hid (V = -1):=by
     show _=_
     rw [hV.out];unfold numR;rw [if_neg];rintro ⟨hall,_⟩;unfold digs at hall;rw [List.all_eq_true] at hall;have:=of_decide_eq_true (hall x hmem.out)
     rw [hd.out] at this;omega
    go_wp2_with fail
    go_ret;exact ⟨by rw [hv.out];rfl,rfl⟩
   ·have hd:Hid (digitV 16 x.toNat = -1):=by
     show _=_;unfold digitV;repeat (first | rw [if_pos (by omega)] | rw [if_neg (by omega)])
    have hv:Hid (V = -1):=by
     show _=_
     rw [hV.out];unfold numR;rw [if_neg];rintro ⟨hall,_⟩;unfold digs at hall;rw [List.all_eq_true] at hall;have:=of_decide_eq_true (hall x hmem.out)
     rw [hd.out] at this;omega
    go_wp2_with fail
    go_ret;exact ⟨by rw [hv.out];rfl,rfl⟩
  ·have hk':k=s.size:=by omega
   have hfull:s.data.toList.take k=s.data.toList:=List.take_of_length_le (by have:=HL.out;omega)
   have hdg':digs 16 s.data.toList=true:=by have:=hdg.out;rwa [hfull] at this
   have hnf':cv=numF 16 0 s.data.toList:=by have:=hnf.out;rwa [hfull] at this
   have HD:=Lib.hid hdg';have HN:=Lib.hid hnf'
   clear hfull hdg' hnf';by_cases hr:1≤s.size∧s.size≤7
   ·obtain ⟨hr1,hr7⟩:=hr
    have hv:Hid (V=cv):=by
     have:=HL.out
     show _=_
     rw [hV.out,HN.out];unfold numR;rw [if_pos ⟨HD.out,by omega,by omega⟩]
    clear hk'
    go_wp2_with fail
    go_ret;exact ⟨by rw [hv.out];rfl,rfl⟩
   ·have hv:Hid (V = -1):=by
     have:=HL.out
     show _=_
     rw [hV.out];unfold numR;rw [if_neg (fun h=>hr ⟨by omega,by omega⟩)]
    clear hk';rcases (by omega:s.size<1∨(1≤s.size∧7<s.size)) with h1 | ⟨h1,h7⟩
    ·clear hr
     go_wp2_with fail
     go_ret;exact ⟨by rw [hv.out];rfl,rfl⟩
    ·clear hr
     go_wp2_with fail
     go_ret;exact ⟨by rw [hv.out];rfl,rfl⟩
end
end Go.Proofs.YtcombcoilpmnkaaGreat

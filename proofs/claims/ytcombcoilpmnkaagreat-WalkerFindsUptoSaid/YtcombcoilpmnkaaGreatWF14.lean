/-
  Texts of this claim, joined (by a program of the claim's author): Pq1, Pq2, Pq3, Pq4, Pq5, Pq6, Pq7, Pq8.
-/
import Derived.Test.YtcombcoilpmnkaaGreatWF1
import Derived.Test.YtcombcoilpmnkaaGreatWF13
import Derived.Test.YtcombcoilpmnkaaGreatWF11
import Derived.Lib.BufferOwn
import Derived.Deep.RegionHeld3
import Derived.Deep.LoopGhost
import Derived.StillTailTactics
import Derived.Laws.Rows
import Derived.Laws.OwnMore
namespace Go.Proofs.YtcombcoilpmnkaaGreat
set_option maxRecDepth 100000
set_option maxHeartbeats 16000000
section
open Go.RowKit
structure QRdr where
 s:ByteArray
 pos:Nat
 A:Option Addr
 n:Nat
 c:Nat
 bad:Int
 code:Int
def QRdr.cells (r:QRdr):Array Value:=#[.string r.s,.int .i64 r.pos,.slice r.A r.n r.c,.int .i64 r.bad,.int .i64 r.code]
def QAt (w:World) (b:Nat) (r:QRdr):Prop:=w.heap[b]? = some (.cells r.cells 126 (0,0))
theorem zG6 {w:World} {b:Nat} {cur:Array Value} {e:TypeId} (h:w.heap[b]? = some (.cells cur e (0,0))) (j:Nat):w.cell? ⟨b,j,none⟩=cur[j]?:=by
 simp [World.cell?,h]
theorem QAt.all {w:World} {b:Nat} {r:QRdr} (h:QAt w b r) :
  w.cell? ⟨b,0,none⟩=some (.string r.s)∧w.cell? ⟨b,1,none⟩=some (.int .i64 r.pos)∧w.cell? ⟨b,2,none⟩=some (.slice r.A r.n r.c)∧w.cell? ⟨b,3,none⟩=some (.int .i64 r.bad)∧w.cell? ⟨b,4,none⟩=some (.int .i64 r.code):=by
 refine ⟨?_,?_,?_,?_,?_⟩ <;> (rw [zG6 h];rfl)
theorem QAt.froz {w:World} {b:Nat} {r:QRdr} (h:QAt w b r) (j:Nat):w.frozen? ⟨b,j,none⟩=false:=frozen_of_row w b j _ _ h
theorem QAt.drew {w:World} {b:Nat} {r:QRdr} (h:QAt w b r):QAt w.drew b r:=h
theorem QAt.lt {w:World} {b:Nat} {r:QRdr} (h:QAt w b r):b<w.heap.size:=(Array.getElem?_eq_some_iff.1 h).1
theorem QAt.grown {w w':World} {b:Nat} {r:QRdr} (h:QAt w b r) (hg:w.grownBy w' none):QAt w' b r:=by
 unfold QAt;rw [hg.block b h.lt (by simp)];exact h
theorem QAt.below {w w':World} {b:Nat} {r:QRdr} (h:QAt w b r) (hb:Below w.heap.size w w'):QAt w' b r:=h.grown (Lib.grownBy_below (World.grownBy.refl w none) hb)
section
variable {w:World} {b:Nat} {r:QRdr} (h:QAt w b r)
include h
theorem QAt.pos (p:Nat):QAt (w.setCell ⟨b,1,none⟩ (.int .i64 p)) b { r with pos:=p }:=Lib.heap_setCell_same (i:=1) h _
theorem QAt.row (A:Option Addr) (n c:Nat):QAt (w.setCell ⟨b,2,none⟩ (.slice A n c)) b { r with A:=A,n:=n,c:=c }:=Lib.heap_setCell_same (i:=2) h _
theorem QAt.bad (p:Int):QAt (w.setCell ⟨b,3,none⟩ (.int .i64 p)) b { r with bad:=p }:=Lib.heap_setCell_same (i:=3) h _
theorem QAt.code (p:Int):QAt (w.setCell ⟨b,4,none⟩ (.int .i64 p)) b { r with code:=p }:=Lib.heap_setCell_same (i:=4) h _
end
def QPost (w:World) (b:Nat) (r':QRdr) (v:Value) (e:Ending) (w':World):Prop:=e=.returned v∧QAt w' b r'∧w.grownBy w' (some b)
theorem zAt (b:Nat) (r:QRdr) (w:World) (h:QAt w b r) (p e:Int) :
  Calls Tryz.prog 118 #[.pointer (some ⟨b,0,none⟩),.int .i64 p,.int .i64 e] w (QPost w b { r with bad:=p,code:=e } (.bool false)):=by
 have H:=Lib.hid h
 obtain ⟨_,_,_,h3,h4⟩:=h.all
 have f3:=h.froz 3
 have f4:=h.froz 4
 clear h
 go_enter Tryz.func118,Tryz.ntmps118
 go_wp2_with fail
 go_ret;exact ⟨rfl,(H.out.bad p).code e,Lib.grownBy_setB (Lib.grownBy_setCell w b 3 _) 4 _⟩
theorem zAS {w w':World} {row:Option Nat} (h:w.grownBy w' row):w.grownBy w'.drew row:=⟨h.os,h.tape,h.output,h.size,h.block⟩
theorem zBQ (s:ByteArray) (k:Nat):(s.extract k s.size).data.toList=s.data.toList.drop k:=Lib.extract_to_end s k
theorem zAw (b:Nat) (r:QRdr) (w:World) (h:QAt w b r) (p:List UInt8) (hp:r.pos≤r.s.size) (hs:r.s.size≤1000000000) (v:Bool) (hv:Hid (pre p (r.s.data.toList.drop r.pos)=v)) (hl:p.length≤1000) :
  Calls Tryz.prog 99 #[.pointer (some ⟨b,0,none⟩),.string ⟨p.toArray⟩] w (QPost w b (if v then { r with pos:=r.pos+p.length } else r) (.bool v)):=by
 have H:=Lib.hid h
 have hb:=h.lt
 have hc:=Lib.hid h.all
 have hf:=Lib.hid h.froz
 have hsz:(⟨p.toArray⟩:ByteArray).size=p.length:=by show p.toArray.size=_;simp
 have hx:Hid ((r.s.extract r.pos r.s.size).data.toList=r.s.data.toList.drop r.pos):=Lib.extract_to_end _ _
 have HS:Hid (w.drew.cell? ⟨b,0,none⟩=some (.string r.s)∧w.drew.cell? ⟨b,1,none⟩=some (.int .i64 r.pos)):=⟨hc.out.1,hc.out.2.1⟩
 have i0:(0:Int)≤(r.pos:Int):=by omega
 have i1:(r.pos:Int)≤r.s.size:=by omega
 clear h;cases v with
 | false =>
  go_enter Tryz.func99,Tryz.ntmps99
  go_wp2_with fail;refine wp_region_held_drew (S:=fun w'=>w'.cell? ⟨b,0,none⟩=some (.string r.s)∧w'.cell? ⟨b,1,none⟩=some (.int .i64 r.pos)) (by kernel_rfl) HS.out (fun hHeld=>?_)
  refine tkv 0 (h:=tkv 1 (h:=tkv 2 (h:=tkv 3 (h:=tkv 4 (h:=tkv 5 (h:=?_))))))
  refine tkv 6 (h:=tkv 7 (h:=tkv 8 (h:=tkv 9 (h:=?_))))
  refine rdy 10 (fun K hK=>?_)
  go_simp
  refine (zAG _ p _).mono ?_
  rw [hx.out,hv.out];rintro e w2 ⟨rfl,rfl⟩
  go_wp2_with fail;refine hK.out _ _ (HS.out) (fun hHeld=>?_)
  clear hK K
  try go_frame
  refine tkv 11 (h:=?_)
  refine wpAnyH_done (by kernel_rfl) ?_ _
  clear hHeld
  go_wp2_with fail
  go_ret;exact ⟨rfl,H.out,zAS (World.grownBy.refl w _)⟩
 | true =>
  go_enter Tryz.func99,Tryz.ntmps99
  go_wp2_with fail;refine wp_region_held_drew (S:=fun w'=>w'.cell? ⟨b,0,none⟩=some (.string r.s)∧w'.cell? ⟨b,1,none⟩=some (.int .i64 r.pos)) (by kernel_rfl) HS.out (fun hHeld=>?_)
  refine tkv 0 (h:=tkv 1 (h:=tkv 2 (h:=tkv 3 (h:=tkv 4 (h:=tkv 5 (h:=?_))))))
  refine tkv 6 (h:=tkv 7 (h:=tkv 8 (h:=tkv 9 (h:=?_))))
  refine rdy 10 (fun K hK=>?_)
  go_simp
  refine (zAG _ p _).mono ?_
  rw [hx.out,hv.out];rintro e w2 ⟨rfl,rfl⟩
  go_wp2_with fail;refine hK.out _ _ (HS.out) (fun hHeld=>?_)
  clear hK K
  try go_frame
  refine tkv 11 (h:=?_)
  refine wpAnyH_done (by kernel_rfl) ?_ _
  clear hHeld;obtain ⟨h0,h1⟩:=HS.out
  have f1:w.drew.frozen? ⟨b,1,none⟩=false:=H.out.drew.froz 1
  go_wp2_with fail
  go_ret;exact ⟨rfl,H.out.drew.pos _,Lib.grownBy_setB (zAS (World.grownBy.refl w _)) 1 _⟩
theorem zBN (b:Nat) (r:QRdr) (w:World) (h:QAt w b r) (p:List UInt8) (hp:r.pos≤r.s.size) (hs:r.s.size≤1000000000) (v:Bool) (hv:Hid (pre p (r.s.data.toList.drop r.pos)=v)) (hl:p.length≤1000) :
  Calls Tryz.prog 98 #[.pointer (some ⟨b,0,none⟩),.string ⟨p.toArray⟩] w (QPost w b (if v then { r with pos:=r.pos+p.length } else { r with bad:=r.pos,code:=70 }) (.bool v)):=by
 cases v with
 | false =>
  go_enter Tryz.func98,Tryz.ntmps98
  go_wp2_with fail;refine (zAw b r w h p hp hs false hv hl).mono ?_
  rintro e w2 ⟨rfl,h2,hg2⟩;have h2':QAt w2 b r:=h2
  obtain ⟨_,h21,_⟩:=h2'.all
  go_wp2_with fail;refine (zAt b r w2 h2' r.pos 70).mono ?_
  rintro e w3 ⟨rfl,h3,hg3⟩
  go_wp2_with fail
  go_ret;exact ⟨rfl,h3,Lib.grownBy_trans hg2 hg3⟩
 | true =>
  go_enter Tryz.func98,Tryz.ntmps98
  go_wp2_with fail;refine (zAw b r w h p hp hs true hv hl).mono ?_
  rintro e w2 ⟨rfl,h2,hg2⟩
  go_wp2_with fail
  go_ret;exact ⟨rfl,h2,hg2⟩
theorem zI7 (s:ByteArray) (v:Bool) (w:World) (hs:s.size≤1099511627776) (o:List UInt8) (k:Nat) (e:Int) (h:Hid (undoL v s.data.toList=(o,k,e))) :
  Calls Tryz.prog 141 #[.string s,.bool v] w (Ret w (.tuple #[.string ⟨o.toArray⟩,.int .i64 (k:Nat),.int .i64 e])):=by
 have:=zKf s v w hs
 rw [h.out] at this;exact this
theorem zAF {w w1 w2:World} {b:Nat} (h1:w.grownBy w1 (some b)) (h2:w1.grownBy w2 (some b)):w.grownBy w2 (some b):=Lib.grownBy_trans h1 h2
def QTold {α:Type} (w:World) (b:Nat) (r:QRdr) (V:Told α) (yes:α→Value) (no:Value→Prop) (e:Ending) (w':World):Prop :=
 (match V with
  | .ok x n=>e=.returned (yes x)∧QAt w' b { r with pos:=r.pos+n }
  | .bad k c=>∃ v,e=.returned v∧no v ∧ ∃ p:Nat,QAt w' b { r with pos:=p,bad:=((r.pos+k:Nat):Int),code:=c })∧w.grownBy w' (some b)
end
section
open Go.RowKit
theorem zEg (s:List UInt8) (w:World) (hs:s.length≤1000000000) (r:Bool) (hr:Hid (nameL s=r)) :
  Calls Tryz.prog 54 #[.string ⟨s.toArray⟩] w (Ret w (.bool r)):=zHZ _ w (by show s.toArray.size≤maxLen;unfold maxLen;simp;omega) r hr
theorem zFN (s:ByteArray):s=⟨s.data.toList.toArray⟩:=by simp
theorem zHr (b:Nat) (r:QRdr) (w:World) (h:QAt w b r) (hp:r.pos≤r.s.size) (hs:r.s.size≤1000000000) (V:Told (List UInt8)) (hV:Hid (qname (r.s.data.toList.drop r.pos)=V)) :
  Calls Tryz.prog 131 #[.pointer (some ⟨b,0,none⟩)] w (QTold w b r V (fun s=>.tuple #[.string ⟨s.toArray⟩,.bool true]) (fun v=>v=.tuple #[.string ⟨#[]⟩,.bool false])):=by
 have H:=Lib.hid h
 obtain ⟨h0,h1,_⟩:=h.all
 have HL:=Lib.hid (zAH r.s)
 obtain ⟨n,hn⟩:∃ n,Hid (partN (r.s.data.toList.drop r.pos)=n):=⟨_,rfl⟩
 clear h
 go_enter Tryz.func131,Tryz.ntmps131
 go_wp2_with fail;clear h0 h1
 go_loopg [] (r.s.size-r.pos) (fun g wr=>∃ p:Nat,r.pos≤p∧p≤r.s.size∧g=r.s.size-p∧Hid (QAt wr b { r with pos:=p })∧Hid (p+partN (r.s.data.toList.drop p)=r.pos+n)∧Hid (w.grownBy wr (some b)))
 case atStart=>exact ⟨r.pos,Nat.le_refl _,hp,rfl,H.out,by show _=_;rw [hn.out],World.grownBy.refl w _⟩
 case round =>
  obtain ⟨p,hrp,hk,rfl,HR,hin,hg⟩:=hrel
  have HS:Hid (wr.drew.cell? ⟨b,0,none⟩=some (.string r.s)∧wr.drew.cell? ⟨b,1,none⟩=some (.int .i64 p)):=⟨HR.out.drew.all.1,HR.out.drew.all.2.1⟩
  obtain ⟨c,m,hq⟩:∃ c m,Hid (nextL (r.s.data.toList.drop p)=(c,m)):=⟨_,_,rfl⟩
  have hq':Hid (nextL (r.s.extract p r.s.size).data.toList=(c,m)):=by show _=_;rw [zBQ];exact hq.out
  have hml:=(zA2 (r.s.data.toList.drop p)).1
  rw [hq.out,List.length_drop,HL.out] at hml;have i0:(0:Int)≤(p:Int):=by omega
  have i1:(p:Int)≤r.s.size:=by omega
  have i3:(0:Int)≤(r.pos:Int):=by omega
  have hsx:(r.s.extract p r.s.size).size≤maxLen:=by unfold maxLen;simp;omega
  have hml':p+m≤r.s.size:=by simp only at hml;omega
  clear hml
  go_wp2_with fail;refine wp_region_held_drew (S:=fun w'=>w'.cell? ⟨b,0,none⟩=some (.string r.s)∧w'.cell? ⟨b,1,none⟩=some (.int .i64 p)) (by kernel_rfl) HS.out (fun hHeld=>?_)
  refine tkv 0 (h:=tkv 1 (h:=tkv 2 (h:=tkv 3 (h:=tkv 4 (h:=tkv 5 (h:=?_))))))
  refine tkv 6 (h:=tkv 7 (h:=tkv 8 (h:=?_)))
  refine rdy 9 (fun K hK=>?_)
  go_simp
  refine (zAl _ _ hsx c m hq').mono ?_
  rintro e w2 ⟨rfl,hb2⟩;have HR2:Hid (QAt w2 b { r with pos:=p }):=QAt.below (w:=wr.drew) HR.out.drew hb2
  have HS2:Hid (w2.cell? ⟨b,0,none⟩=some (.string r.s)∧w2.cell? ⟨b,1,none⟩=some (.int .i64 p)):=⟨HR2.out.all.1,HR2.out.all.2.1⟩
  have HS3:Hid (w2.drew.cell? ⟨b,0,none⟩=some (.string r.s)∧w2.drew.cell? ⟨b,1,none⟩=some (.int .i64 p)):=HS2.out
  have hg2:Hid (w.grownBy w2 (some b)):=Lib.grownBy_below (zAS hg.out) hb2
  go_wp2_with fail;refine hK.out _ _ (HS2.out) (fun hHeld=>?_)
  clear hK K
  try go_frame
  refine tkv 10 (h:=tkv 11 (h:=tkv 12 (h:=tkv 13 (h:=tkv 14 (h:=?_)))))
  refine wpAnyH_done (by kernel_rfl) ?_ _
  clear hHeld;by_cases hm:m=0
  ·subst hm
   have HIN:Hid (p=r.pos+n):=by
    have:=hin.out
    rw [zCM (.inl (by rw [hq.out]))] at this
    show _=_
    omega
   clear hin;obtain ⟨h0,h1⟩:=HS2.out
   have hnl:n≤(r.s.data.toList.drop r.pos).length:=by rw [← hn.out];exact zCB _
   obtain ⟨t,ht⟩:∃ t,Hid ((r.s.data.toList.drop r.pos).take n=t):=⟨_,rfl⟩
   have hext:Hid (r.s.extract r.pos p=⟨t.toArray⟩):=by
    show _=_
    rw [zFN (r.s.extract r.pos p),Lib.extract_data,← ht.out];have hp2:=HIN.out
    rw [show p-r.pos=n by omega]
   have htl:t.length=n:=by rw [← ht.out,List.length_take];omega
   have hsz:t.length≤1000000000:=by rw [List.length_drop,HL.out] at hnl;omega
   have i2:(r.pos:Int)≤p:=by omega
   obtain ⟨v,hv⟩:∃ v,Hid (nameL t=v):=⟨_,rfl⟩
   have hVv:Hid (V=if v=false then .bad 0 70 else .ok t n):=by
    show _=_
    rw [← hV.out];unfold qname;rw [hn.out,ht.out,hv.out]
   clear hnl hV htl
   go_wp2_with fail;refine wp_region_held_drew (S:=fun w'=>w'.cell? ⟨b,0,none⟩=some (.string r.s)∧w'.cell? ⟨b,1,none⟩=some (.int .i64 p)) (by kernel_rfl) HS3.out (fun hHeld=>?_)
   refine tkv 0 (h:=tkv 1 (h:=tkv 2 (h:=tkv 3 (h:=tkv 4 (h:=tkv 5 (h:=?_))))))
   refine tkv 6 (h:=tkv 7 (h:=tkv 8 (h:=tkv 9 (h:=tkv 10 (h:=?_)))))
   refine wpAnyH_done (by kernel_rfl) ?_ _
   clear hHeld h0 h1;rw [hext.out]
   go_wp2_with fail;refine (zEg t _ hsz v hv).mono ?_
   rintro e w5 ⟨rfl,hb5⟩;have hR5:QAt w5 b { r with pos:=r.pos+n }:=by
    rw [← HIN.out];exact QAt.below (w:=w2.drew) HR2.out.drew hb5
   have hg5:w.grownBy w5 (some b):=Lib.grownBy_below (zAS hg2.out) hb5
   cases v with
   | true =>
    rw [if_neg (by decide)] at hVv
    go_wp2_with fail
    go_ret2;rw [hVv.out];exact ⟨⟨rfl,hR5⟩,hg5⟩
   | false =>
    rw [if_pos rfl] at hVv
    go_wp2_with fail;refine (zAt b _ w5 hR5 r.pos 70).mono ?_
    rintro e w6 ⟨rfl,h6,hg6⟩
    go_wp2_with fail
    go_ret2;rw [hVv.out];exact ⟨⟨_,rfl,rfl,_,h6⟩,zAF hg5 hg6⟩
  ·have hm0:((m:Int) == 0)=false:=by simp;omega
   cases hpb:partB c with
   | false =>
    have HPB:Hid (partB c=false):=hpb
    have HIN:Hid (p=r.pos+n):=by
     have:=hin.out
     rw [zCM (.inr (by rw [hq.out];exact hpb))] at this
     show _=_
     omega
    clear hin hpb
    go_wp2_with fail;refine (zGx c _ false HPB).mono ?_
    rintro e w3 ⟨rfl,hb3⟩;have HR2:Hid (QAt w3 b { r with pos:=p }):=HR2.out.below hb3
    have HS2:Hid (w3.cell? ⟨b,0,none⟩=some (.string r.s)∧w3.cell? ⟨b,1,none⟩=some (.int .i64 p)):=⟨HR2.out.all.1,HR2.out.all.2.1⟩
    have HS3:Hid (w3.drew.cell? ⟨b,0,none⟩=some (.string r.s)∧w3.drew.cell? ⟨b,1,none⟩=some (.int .i64 p)):=HS2.out
    have hg2:Hid (w.grownBy w3 (some b)):=Lib.grownBy_below hg2.out hb3
    obtain ⟨h0,h1⟩:=HS2.out
    have hnl:n≤(r.s.data.toList.drop r.pos).length:=by rw [← hn.out];exact zCB _
    obtain ⟨t,ht⟩:∃ t,Hid ((r.s.data.toList.drop r.pos).take n=t):=⟨_,rfl⟩
    have hext:Hid (r.s.extract r.pos p=⟨t.toArray⟩):=by
     show _=_
     rw [zFN (r.s.extract r.pos p),Lib.extract_data,← ht.out];have hp2:=HIN.out
     rw [show p-r.pos=n by omega]
    have htl:t.length=n:=by rw [← ht.out,List.length_take];omega
    have hsz:t.length≤1000000000:=by rw [List.length_drop,HL.out] at hnl;omega
    have i2:(r.pos:Int)≤p:=by omega
    obtain ⟨v,hv⟩:∃ v,Hid (nameL t=v):=⟨_,rfl⟩
    have hVv:Hid (V=if v=false then .bad 0 70 else .ok t n):=by
     show _=_
     rw [← hV.out];unfold qname;rw [hn.out,ht.out,hv.out]
    clear hnl hV htl
    go_wp2_with fail;refine wp_region_held_drew (S:=fun w'=>w'.cell? ⟨b,0,none⟩=some (.string r.s)∧w'.cell? ⟨b,1,none⟩=some (.int .i64 p)) (by kernel_rfl) HS3.out (fun hHeld=>?_)
    refine tkv 0 (h:=tkv 1 (h:=tkv 2 (h:=tkv 3 (h:=tkv 4 (h:=tkv 5 (h:=?_))))))
    refine tkv 6 (h:=tkv 7 (h:=tkv 8 (h:=tkv 9 (h:=tkv 10 (h:=?_)))))
    refine wpAnyH_done (by kernel_rfl) ?_ _
    clear hHeld h0 h1;rw [hext.out]
    go_wp2_with fail;refine (zEg t _ hsz v hv).mono ?_
    rintro e w5 ⟨rfl,hb5⟩;have hR5:QAt w5 b { r with pos:=r.pos+n }:=by
     rw [← HIN.out];exact QAt.below (w:=w3.drew) HR2.out.drew hb5
    have hg5:w.grownBy w5 (some b):=Lib.grownBy_below (zAS hg2.out) hb5
    cases v with
    | true =>
     rw [if_neg (by decide)] at hVv
     go_wp2_with fail
     go_ret2;rw [hVv.out];exact ⟨⟨rfl,hR5⟩,hg5⟩
    | false =>
     rw [if_pos rfl] at hVv
     go_wp2_with fail;refine (zAt b _ w5 hR5 r.pos 70).mono ?_
     rintro e w6 ⟨rfl,h6,hg6⟩
     go_wp2_with fail
     go_ret2;rw [hVv.out];exact ⟨⟨_,rfl,rfl,_,h6⟩,zAF hg5 hg6⟩
   | true =>
    have HPB:Hid (partB c=true):=hpb
    have HIN:Hid (p+m+partN (r.s.data.toList.drop (p+m))=r.pos+n):=by
     have h1:=hin.out
     rw [zE0 (by rw [hq.out];simp [hm,hpb]),hq.out,List.drop_drop] at h1
     show _=_
     simp only at h1
     omega
    clear hin hpb
    go_wp2_with fail;refine (zGx c _ true HPB).mono ?_
    rintro e w3 ⟨rfl,hb3⟩;have HR3:Hid (QAt w3 b { r with pos:=p }):=HR2.out.below hb3
    obtain ⟨_,h1,_⟩:=HR3.out.all
    have f1:w3.frozen? ⟨b,1,none⟩=false:=HR3.out.froz 1
    go_wp2_with fail
    go_roundg (r.s.size-(p+m))
    case measure=>omega
    case rel =>
     refine ⟨p+m,by omega,by omega,rfl,?_,HIN,zAF (Lib.grownBy_below hg2.out hb3) (Lib.grownBy_setCell _ b 1 _)⟩
     have:=HR3.out.pos (p+m)
     rw [show ((p+m:Nat):Int)=(p:Int)+m by omega] at this
     exact this
end
section
open Go.RowKit
theorem zJc (c:UInt8):∀ l:List UInt8,(l.takeWhile (· != c)).length=l.length→Lib.indexByte l c = -1
 | [],_=>rfl
 | a :: l,h=>by
  rw [List.takeWhile_cons] at h;by_cases ha:a=c
  ·subst ha;simp at h
  ·have hb:(a != c)=true:=by simpa using ha
   rw [if_pos hb] at h;simp only [List.length_cons] at h;rw [Lib.indexByte,zJc c l (by omega)]
   simp [ha]
theorem zJd (c:UInt8):∀ l:List UInt8,(l.takeWhile (· != c)).length≠l.length→Lib.indexByte l c=((l.takeWhile (· != c)).length:Nat)
 | [],h=>absurd rfl h
 | a :: l,h=>by
  rw [List.takeWhile_cons] at h ⊢;by_cases ha:a=c
  ·subst ha;simp [Lib.indexByte]
  ·have hb:(a != c)=true:=by simpa using ha
   rw [if_pos hb] at h ⊢;simp only [List.length_cons] at h ⊢;rw [Lib.indexByte,zJd c l (by omega)]
   have:((((l.takeWhile (· != c)).length:Nat):Int) == -1)=false:=by simp
   simp [ha,this]
theorem zGt (b:Nat) (r:QRdr) (w:World) (h:QAt w b r) (hp:r.pos≤r.s.size) (hs:r.s.size≤1000000000) (V:Told (List UInt8)) (hV:Hid (qvalue (r.s.data.toList.drop r.pos)=V)) :
  Calls Tryz.prog 133 #[.pointer (some ⟨b,0,none⟩)] w (QTold w b r V (fun s=>.tuple #[.string ⟨s.toArray⟩,.bool true]) (fun v=>v=.tuple #[.string ⟨#[]⟩,.bool false])):=by
 have H:=Lib.hid h
 have HL:=Lib.hid (zAH r.s)
 clear h;cases hmv:pre [34] (r.s.data.toList.drop r.pos) with
 | false =>
  have hm:Hid (pre [34] (r.s.data.toList.drop r.pos)=false):=hmv
  have HV:Hid (V=.bad 0 70):=by show _=_;rw [← hV.out];unfold qvalue;rw [if_pos hmv]
  clear hV hmv
  go_enter Tryz.func133,Tryz.ntmps133
  go_wp2_with fail;refine (zBN b r w H.out [34] hp hs false hm (by decide)).mono ?_
  rintro e w2 ⟨rfl,h2,hg2⟩
  go_wp2_with fail
  go_ret2;rw [HV.out];exact ⟨⟨_,rfl,rfl,_,h2⟩,hg2⟩
 | true =>
  have hm:Hid (pre [34] (r.s.data.toList.drop r.pos)=true):=hmv
  obtain ⟨Q,hQ⟩:∃ Q,Hid (r.pos+1=Q):=⟨_,rfl⟩
  have hn3:Q≤r.s.size:=by have:=zBk hm.out;rw [HL.out] at this;have:=hQ.out;omega
  obtain ⟨t,ht⟩:∃ t,Hid ((r.s.data.toList.drop Q).takeWhile (· != 34)=t):=⟨_,rfl⟩
  obtain ⟨k,hk⟩:∃ k,Hid (t.length=k):=⟨_,rfl⟩
  have hkl0:=zA5 (· != 34) (r.s.data.toList.drop Q)
  rw [ht.out,hk.out,List.length_drop,HL.out] at hkl0;by_cases hv:k=r.s.size-Q
  ·have hq:Hid (Lib.indexByte (r.s.data.toList.drop Q) 34 = -1):=zJc 34 _ (by rw [ht.out,hk.out,List.length_drop,HL.out];exact hv)
   have HV:Hid (V=.bad (r.s.size-r.pos) 70):=by
    show _=_
    rw [← hV.out];unfold qvalue;rw [if_neg (by rw [hm.out];decide)]
    simp only
    rw [List.drop_drop,hQ.out,ht.out,hk.out,if_pos (by rw [List.length_drop,HL.out];exact hv),List.length_drop,HL.out]
   clear hV hmv hv hkl0;have i0:(0:Int)≤(Q:Int):=by omega
   have i1:(Q:Int)≤r.s.size:=by omega
   go_enter Tryz.func133,Tryz.ntmps133
   go_wp2_with fail;refine (zBN b r w H.out [34] hp hs true hm (by decide)).mono ?_
   rintro e w2 ⟨rfl,h2,hg2⟩;have HR2:Hid (QAt w2 b { r with pos:=Q }):=by show QAt _ _ _;rw [← hQ.out];exact h2
   have HS2:Hid (w2.drew.cell? ⟨b,0,none⟩=some (.string r.s)∧w2.drew.cell? ⟨b,1,none⟩=some (.int .i64 Q)):=⟨HR2.out.all.1,HR2.out.all.2.1⟩
   clear h2
   go_wp2_with fail;refine wp_region_held_drew (S:=fun w'=>w'.cell? ⟨b,0,none⟩=some (.string r.s)∧w'.cell? ⟨b,1,none⟩=some (.int .i64 Q)) (by kernel_rfl) HS2.out (fun hHeld=>?_)
   refine tkv 0 (h:=tkv 1 (h:=tkv 2 (h:=tkv 3 (h:=tkv 4 (h:=tkv 5 (h:=?_))))))
   refine tkv 6 (h:=tkv 7 (h:=tkv 8 (h:=?_)))
   refine rdy 9 (fun K hK=>?_)
   go_simp
   refine (Tryz.strings_IndexByte _ _ _).mono ?_
   rintro e w3 ⟨rfl,rfl⟩;rw [zBQ,show ((34:Int)).toNat.toUInt8=34 from rfl,hq.out]
   go_wp2_with fail;refine hK.out _ _ (HS2.out) (fun hHeld=>?_)
   clear hK K
   try go_frame
   refine tkv 10 (h:=?_)
   refine wpAnyH_done (by kernel_rfl) ?_ _
   clear hHeld;obtain ⟨z0,_⟩:=HS2.out
   go_wp2_with fail;refine (zAt b _ w2.drew HR2.out.drew r.s.size 70).mono ?_
   rintro e w4 ⟨rfl,h4,hg4⟩
   go_wp2_with fail
   go_ret2;rw [HV.out];refine ⟨⟨_,rfl,rfl,Q,?_⟩,zAF (zAS hg2) hg4⟩
   rw [show r.pos+(r.s.size-r.pos)=r.s.size by omega]
   exact h4
  ·have hq:Hid (Lib.indexByte (r.s.data.toList.drop Q) 34=(k:Nat)):=by
    show _=_
    rw [← hk.out,← ht.out];exact zJd 34 _ (by rw [ht.out,hk.out,List.length_drop,HL.out];exact hv)
   have hkl:Q+k<r.s.size:=by omega
   obtain ⟨u,m,ee,hu⟩:∃ u m ee,Hid (undoL true t=(u,m,ee)):=⟨_,_,_,rfl⟩
   have htk:Hid ((r.s.data.toList.drop Q).take (Q+k-Q)=t):=by
    show _=_
    have h2:=zCG (r.s.data.toList.drop Q) (· != 34)
    rw [ht.out] at h2;rw [show Q+k-Q=t.length by have:=hk.out;omega]
    conv=>lhs;rw [h2]
    rw [List.take_append_of_le_length (Nat.le_refl _),List.take_length]
   have hml:=zFr true t
   rw [hu.out,hk.out] at hml;have hml':m≤k:=hml
   have hU0:Hid (undoL true (r.s.extract Q (Q+k)).data.toList=(u,m,ee)):=by show _=_;rw [Lib.extract_data,htk.out];exact hu.out
   have HV:Hid (V=if ee≠0 then .bad (1+m) ee else .ok u (1+k+1)):=by
    show _=_
    rw [← hV.out];unfold qvalue;rw [if_neg (by rw [hm.out];decide)]
    simp only
    rw [List.drop_drop,hQ.out,ht.out,hk.out,if_neg (by rw [List.length_drop,HL.out];exact hv),hu.out]
   have hus:(r.s.extract Q (Q+k)).size≤1099511627776:=by rw [ByteArray.size_extract];omega
   have kn0:(0:Int)≤(k:Int):=by omega
   have i2:(Q:Int)+k<r.s.size:=by omega
   clear hV hmv hv hkl0 hml;by_cases he:ee=0
   ·subst he
    rw [if_neg (by simp)] at HV
    have hU:=hU0
    clear hU0;have i0:(0:Int)≤(Q:Int):=by omega
    have i1:(Q:Int)≤r.s.size:=by omega
    go_enter Tryz.func133,Tryz.ntmps133
    go_wp2_with fail;refine (zBN b r w H.out [34] hp hs true hm (by decide)).mono ?_
    rintro e w2 ⟨rfl,h2,hg2⟩;have HR2:Hid (QAt w2 b { r with pos:=Q }):=by show QAt _ _ _;rw [← hQ.out];exact h2
    have HS2:Hid (w2.drew.cell? ⟨b,0,none⟩=some (.string r.s)∧w2.drew.cell? ⟨b,1,none⟩=some (.int .i64 Q)):=⟨HR2.out.all.1,HR2.out.all.2.1⟩
    clear h2
    go_wp2_with fail;refine wp_region_held_drew (S:=fun w'=>w'.cell? ⟨b,0,none⟩=some (.string r.s)∧w'.cell? ⟨b,1,none⟩=some (.int .i64 Q)) (by kernel_rfl) HS2.out (fun hHeld=>?_)
    refine tkv 0 (h:=tkv 1 (h:=tkv 2 (h:=tkv 3 (h:=tkv 4 (h:=tkv 5 (h:=?_))))))
    refine tkv 6 (h:=tkv 7 (h:=tkv 8 (h:=?_)))
    refine rdy 9 (fun K hK=>?_)
    go_simp
    refine (Tryz.strings_IndexByte _ _ _).mono ?_
    rintro e w3 ⟨rfl,rfl⟩;rw [zBQ,show ((34:Int)).toNat.toUInt8=34 from rfl,hq.out]
    go_wp2_with fail;refine hK.out _ _ (HS2.out) (fun hHeld=>?_)
    clear hK K
    try go_frame
    refine tkv 10 (h:=?_)
    refine wpAnyH_done (by kernel_rfl) ?_ _
    clear hHeld;have HS3:Hid (w2.drew.drew.cell? ⟨b,0,none⟩=some (.string r.s)∧w2.drew.drew.cell? ⟨b,1,none⟩=some (.int .i64 Q)):=HS2.out
    have hwr:IntKind.i64.wrap ((Q:Int)+k)=(Q:Int)+k:=IntWalk.i64_in _ (by omega)
    have j1:(0:Int)≤(Q:Int)+k:=by omega
    have j2:(Q:Int)+k≤r.s.size:=by omega
    have j3:(Q:Int)≤(Q:Int)+k:=by omega
    have j4:((Q:Int)+(k:Int)).toNat=Q+k:=by omega
    go_wp2_with fail;refine wp_region_held_drew (S:=fun w'=>w'.cell? ⟨b,0,none⟩=some (.string r.s)∧w'.cell? ⟨b,1,none⟩=some (.int .i64 Q)) (by kernel_rfl) HS3.out (fun hHeld=>?_)
    refine tkv 0 (h:=tkv 1 (h:=tkv 2 (h:=tkv 3 (h:=tkv 4 (h:=tkv 5 (h:=?_))))))
    refine tkv 6 (h:=tkv 7 (h:=tkv 8 (h:=tkv 9 (h:=tkv 10 (h:=tkv 11 (h:=?_))))))
    refine tkv 12 (h:=tkv 13 (h:=tkv 14 (h:=?_)))
    refine rdy 15 (fun K hK=>?_)
    go_simp
    refine (zI7 (r.s.extract Q (Q+k)) true _ hus u m 0 hU).mono ?_
    rintro e3 w5 ⟨rfl,hb5⟩;have HR5:Hid (QAt w5 b { r with pos:=Q }):=QAt.below (w:=w2.drew.drew) HR2.out.drew.drew hb5
    have HS5:Hid (w5.cell? ⟨b,0,none⟩=some (.string r.s)∧w5.cell? ⟨b,1,none⟩=some (.int .i64 Q)):=⟨HR5.out.all.1,HR5.out.all.2.1⟩
    have hg5:Hid (w.grownBy w5 (some b)):=Lib.grownBy_below (zAS (zAS hg2)) hb5
    go_wp2_with fail;refine hK.out _ _ (HS5.out) (fun hHeld=>?_)
    clear hK K
    try go_frame
    refine tkv 16 (h:=tkv 17 (h:=tkv 18 (h:=tkv 19 (h:=tkv 20 (h:=tkv 21 (h:=?_))))))
    refine tkv 22 (h:=?_)
    refine wpAnyH_done (by kernel_rfl) ?_ _
    clear hHeld;have z1:=HR5.out.all.2.1
    have f1:=HR5.out.froz 1
    go_wp2_with fail
    go_ret2;rw [HV.out];refine ⟨⟨rfl,?_⟩,Lib.grownBy_setB hg5.out 1 _⟩
    have:=HR5.out.pos (Q+(k+1))
    rw [show r.pos+(1+k+1)=Q+(k+1) by have:=hQ.out;omega]
    exact this
   ·have HE:=Lib.hid he
    have he1:(ee != 0)=true:=by simpa using he
    rw [if_pos he] at HV;have hU:=hU0
    clear hU0 he;have i0:(0:Int)≤(Q:Int):=by omega
    have i1:(Q:Int)≤r.s.size:=by omega
    go_enter Tryz.func133,Tryz.ntmps133
    go_wp2_with fail;refine (zBN b r w H.out [34] hp hs true hm (by decide)).mono ?_
    rintro e w2 ⟨rfl,h2,hg2⟩;have HR2:Hid (QAt w2 b { r with pos:=Q }):=by show QAt _ _ _;rw [← hQ.out];exact h2
    have HS2:Hid (w2.drew.cell? ⟨b,0,none⟩=some (.string r.s)∧w2.drew.cell? ⟨b,1,none⟩=some (.int .i64 Q)):=⟨HR2.out.all.1,HR2.out.all.2.1⟩
    clear h2
    go_wp2_with fail;refine wp_region_held_drew (S:=fun w'=>w'.cell? ⟨b,0,none⟩=some (.string r.s)∧w'.cell? ⟨b,1,none⟩=some (.int .i64 Q)) (by kernel_rfl) HS2.out (fun hHeld=>?_)
    refine tkv 0 (h:=tkv 1 (h:=tkv 2 (h:=tkv 3 (h:=tkv 4 (h:=tkv 5 (h:=?_))))))
    refine tkv 6 (h:=tkv 7 (h:=tkv 8 (h:=?_)))
    refine rdy 9 (fun K hK=>?_)
    go_simp
    refine (Tryz.strings_IndexByte _ _ _).mono ?_
    rintro e w3 ⟨rfl,rfl⟩;rw [zBQ,show ((34:Int)).toNat.toUInt8=34 from rfl,hq.out]
    go_wp2_with fail;refine hK.out _ _ (HS2.out) (fun hHeld=>?_)
    clear hK K
    try go_frame
    refine tkv 10 (h:=?_)
    refine wpAnyH_done (by kernel_rfl) ?_ _
    clear hHeld;have HS3:Hid (w2.drew.drew.cell? ⟨b,0,none⟩=some (.string r.s)∧w2.drew.drew.cell? ⟨b,1,none⟩=some (.int .i64 Q)):=HS2.out
    have hwr:IntKind.i64.wrap ((Q:Int)+k)=(Q:Int)+k:=IntWalk.i64_in _ (by omega)
    have j1:(0:Int)≤(Q:Int)+k:=by omega
    have j2:(Q:Int)+k≤r.s.size:=by omega
    have j3:(Q:Int)≤(Q:Int)+k:=by omega
    have j4:((Q:Int)+(k:Int)).toNat=Q+k:=by omega
    go_wp2_with fail;refine wp_region_held_drew (S:=fun w'=>w'.cell? ⟨b,0,none⟩=some (.string r.s)∧w'.cell? ⟨b,1,none⟩=some (.int .i64 Q)) (by kernel_rfl) HS3.out (fun hHeld=>?_)
    refine tkv 0 (h:=tkv 1 (h:=tkv 2 (h:=tkv 3 (h:=tkv 4 (h:=tkv 5 (h:=?_))))))
    refine tkv 6 (h:=tkv 7 (h:=tkv 8 (h:=tkv 9 (h:=tkv 10 (h:=tkv 11 (h:=?_))))))
    refine tkv 12 (h:=tkv 13 (h:=tkv 14 (h:=?_)))
    refine rdy 15 (fun K hK=>?_)
    go_simp
    refine (zI7 (r.s.extract Q (Q+k)) true _ hus u m ee hU).mono ?_
    rintro e3 w5 ⟨rfl,hb5⟩;have HR5:Hid (QAt w5 b { r with pos:=Q }):=QAt.below (w:=w2.drew.drew) HR2.out.drew.drew hb5
    have HS5:Hid (w5.cell? ⟨b,0,none⟩=some (.string r.s)∧w5.cell? ⟨b,1,none⟩=some (.int .i64 Q)):=⟨HR5.out.all.1,HR5.out.all.2.1⟩
    have hg5:Hid (w.grownBy w5 (some b)):=Lib.grownBy_below (zAS (zAS hg2)) hb5
    go_wp2_with fail;refine hK.out _ _ (HS5.out) (fun hHeld=>?_)
    clear hK K
    try go_frame
    refine tkv 16 (h:=tkv 17 (h:=tkv 18 (h:=tkv 19 (h:=tkv 20 (h:=tkv 21 (h:=?_))))))
    refine tkv 22 (h:=?_)
    refine wpAnyH_done (by kernel_rfl) ?_ _
    clear hHeld;have z1:=HR5.out.all.2.1
    have hwm:IntKind.i64.wrap ((Q:Int)+m)=(Q:Int)+m:=IntWalk.i64_in _ (by omega)
    go_wp2_with fail;refine (zAt b _ w5 HR5.out ((Q:Int)+m) ee).mono ?_
    rintro e6 w6 ⟨rfl,h6,hg6⟩
    go_wp2_with fail
    go_ret2;rw [HV.out];refine ⟨⟨_,rfl,rfl,Q,?_⟩,zAF hg5.out hg6⟩
    rw [show ((r.pos+(1+m):Nat):Int)=(Q:Int)+m by have:=hQ.out;omega]
    exact h6
end
section
open Go.RowKit
theorem zML (x:UInt8) (l:List UInt8):(x :: l).takeWhile digB=if digB x then x :: l.takeWhile digB else []:=by
 rw [List.takeWhile_cons]
theorem zHV {x c:UInt8} (h:x≠c):((x.toNat:Int) == (c.toNat:Int))=false:=by
 have:x.toNat≠c.toNat:=fun e=>h (UInt8.toNat.inj e)
 simp;omega
theorem zIe (b:Nat) (r:QRdr) (w:World) (h:QAt w b r) (hp:r.pos≤r.s.size) (hs:r.s.size≤1000000000) (V:Told Int) (hV:Hid (qnumber (r.s.data.toList.drop r.pos)=V)) :
  Calls Tryz.prog 134 #[.pointer (some ⟨b,0,none⟩)] w (QTold w b r V (fun n=>.tuple #[.int .i64 n,.bool true]) (fun v=>∃ n,v=.tuple #[.int .i64 n,.bool false])):=by
 have H:=Lib.hid h
 obtain ⟨h0,h1,_⟩:=h.all
 have HL:=Lib.hid (zAH r.s)
 obtain ⟨D,hDD⟩:∃ D,Hid (((r.s.data.toList.drop r.pos).takeWhile digB).length=D):=⟨_,rfl⟩
 obtain ⟨N,hNN⟩:∃ N,Hid (numQ 0 ((r.s.data.toList.drop r.pos).takeWhile digB)=N):=⟨_,rfl⟩
 clear h
 go_enter Tryz.func134,Tryz.ntmps134
 go_wp2_with fail;clear h0 h1
 go_loopg [5] (r.s.size-r.pos) (fun g nv wr=>∃ (p:Nat) (v:Int),r.pos≤p∧p≤r.s.size∧nv=.int .i64 v∧0≤v∧v≤10000∧g=r.s.size-p∧Hid (QAt wr b { r with pos:=p })∧Hid (numQ v ((r.s.data.toList.drop p).takeWhile digB)=N∧p+((r.s.data.toList.drop p).takeWhile digB).length=r.pos+D)∧Hid (w.grownBy wr (some b)))
 case atStart=>exact ⟨r.pos,0,Nat.le_refl _,hp,by go_num,by decide,by decide,rfl,H.out,⟨hNN.out,by rw [hDD.out]⟩,World.grownBy.refl w _⟩
 case round =>
  obtain ⟨p,v,hrp,hk,rfl,hv0,hv1,rfl,HR,hin,hg⟩:=hrel
  have HS:Hid (wr.drew.cell? ⟨b,0,none⟩=some (.string r.s)∧wr.drew.cell? ⟨b,1,none⟩=some (.int .i64 p)):=⟨HR.out.drew.all.1,HR.out.drew.all.2.1⟩
  have j0:(0:Int)≤(p:Int):=by omega
  by_cases hlt:p<r.s.size
  ·obtain ⟨x,HX⟩:∃ x,Hid (r.s.data.toList[p]? = some x):=⟨r.s.data.toList[p]'(by have:=HL.out;omega),List.getElem?_eq_getElem _⟩
   have hsx:r.s[p]=x:=zAv r.s p x HX.out hlt
   have hin':=hin.out
   rw [zAY HX.out,zML] at hin';have j1:(p:Int)<r.s.size:=by omega
   have hx256:x.toNat<256:=x.toNat_lt
   clear hin;by_cases hd1:x.toNat<48
   ·have hdb:digB x=false:=by unfold digB;simp;omega
    rw [hdb] at hin';have HIN:Hid (v=N∧p=r.pos+D):=⟨hin'.1,hin'.2⟩
    have e1:decide ((48:Int)≤((x.toNat:Nat):Int))=false:=decide_eq_false (by omega)
    clear hin' hd1 hdb
    go_wp2_with fail;refine wp_region_held_drew (S:=fun w'=>w'.cell? ⟨b,0,none⟩=some (.string r.s)∧w'.cell? ⟨b,1,none⟩=some (.int .i64 p)) (by kernel_rfl) HS.out (fun hHeld=>?_)
    refine tkv 0 (h:=tkv 1 (h:=tkv 2 (h:=tkv 3 (h:=tkv 4 (h:=tkv 5 (h:=?_))))))
    refine tkv 6 (h:=tkv 7 (h:=tkv 8 (h:=tkv 9 (h:=tkv 10 (h:=tkv 11 (h:=?_))))))
    refine tkv 12 (h:=tkv 13 (h:=tkv 14 (h:=tkv 15 (h:=tkv 16 (h:=tkv 17 (h:=?_))))))
    refine tkv 18 (h:=tkv 19 (h:=tkv 20 (h:=tkv 21 (h:=tkv 22 (h:=?_)))))
    refine tkn 23 (h:=tkn 24 (h:=tkn 25 (h:=tkn 26 (h:=tkn 27 (h:=tkn 28 (h:=?_))))))
    refine tkn 29 (h:=tkn 30 (h:=tkn 31 (h:=tkn 32 (h:=?_))))
    refine tkv 33 (h:=?_)
    refine wpAnyH_done (by kernel_rfl) ?_ _
    clear hHeld;obtain ⟨h0,h1⟩:=HS.out
    obtain ⟨hv,hpD⟩:=HIN.out
    subst hv;by_cases hD:D=0
    ·have hpp:((p:Int) == (r.pos:Int))=true:=by simp;omega
     have HV:Hid (V=.bad 0 70):=by
      show _=_
      rw [← hV.out];unfold qnumber;simp only;rw [if_pos (.inl (List.eq_nil_of_length_eq_zero (by rw [hDD.out];exact hD)))]
     have hpos:((r.pos:Int) == (r.pos:Int))=true:=by simp
     clear hV hD hpD
     go_wp2_with fail;refine (zAt b _ wr.drew HR.out.drew r.pos 70).mono ?_
     rintro e w3 ⟨rfl,h3,hg3⟩
     go_wp2_with fail
     go_ret2;rw [HV.out];exact ⟨⟨_,rfl,⟨0,rfl⟩,p,h3⟩,zAF (zAS hg.out) hg3⟩
    ·have hpp:((p:Int) == (r.pos:Int))=false:=by simp;omega
     have hlt0:r.pos<r.s.size:=by omega
     obtain ⟨y,HY⟩:∃ y,Hid (r.s.data.toList[r.pos]? = some y):=⟨r.s.data.toList[r.pos]'(by have:=HL.out;omega),List.getElem?_eq_getElem _⟩
     have hsy:r.s[r.pos]=y:=zAv r.s r.pos y HY.out hlt0
     have k0:(0:Int)≤(r.pos:Int):=by omega
     have k1:(r.pos:Int)<r.s.size:=by omega
     have hne:(r.s.data.toList.drop r.pos).takeWhile digB≠[]:=fun e=>hD (by rw [← hDD.out,e];rfl)
     have hyc:r.s.data.toList.drop r.pos=y :: r.s.data.toList.drop (r.pos+1):=zAY HY.out
     by_cases hy:y=48
     ·subst hy
      have HV:Hid (V=.bad 0 70):=by
       show _=_
       rw [← hV.out];unfold qnumber;simp only;rw [if_pos (.inr (.inl (by rw [hyc];exact zA4 [48] _)))]
      clear hV hD hpD hne hyc
      go_wp2_with fail;refine (zAt b _ wr.drew HR.out.drew r.pos 70).mono ?_
      rintro e w3 ⟨rfl,h3,hg3⟩
      go_wp2_with fail
      go_ret2;rw [HV.out];exact ⟨⟨_,rfl,⟨0,rfl⟩,p,h3⟩,zAF (zAS hg.out) hg3⟩
     ·have hy48:((y.toNat:Int) == 48)=false:=zHV hy
      have hp48:pre [48] (r.s.data.toList.drop r.pos)=false:=by
       rw [hyc];simp [pre,hy]
      by_cases hbig:9999<v
      ·have HV:Hid (V=.bad 0 70):=by
        show _=_
        rw [← hV.out];unfold qnumber;simp only;rw [if_pos (.inr (.inr (by rw [hNN.out];exact hbig)))]
       clear hV hD hpD hne hyc hy hp48
       go_wp2_with fail;refine (zAt b _ wr.drew HR.out.drew r.pos 70).mono ?_
       rintro e w3 ⟨rfl,h3,hg3⟩
       go_wp2_with fail
       go_ret2;rw [HV.out];exact ⟨⟨_,rfl,⟨0,rfl⟩,p,h3⟩,zAF (zAS hg.out) hg3⟩
      ·have HV:Hid (V=.ok v D):=by
        show _=_
        rw [← hV.out];unfold qnumber;simp only;rw [if_neg (by rw [hNN.out,hp48];simp [hne];omega),hNN.out,hDD.out]
       have hsm:v≤9999:=by omega
       have HP:Hid (p=r.pos+D):=by show _=_;omega
       clear hV hD hpD hne hyc hy hp48 hbig
       go_wp2_with fail
       go_ret2;rw [HV.out];refine ⟨⟨rfl,?_⟩,zAS hg.out⟩
       rw [← HP.out];exact HR.out.drew
   ·by_cases hd2:57<x.toNat
    ·have hdb:digB x=false:=by unfold digB;simp;omega
     rw [hdb] at hin';have HIN:Hid (v=N∧p=r.pos+D):=⟨hin'.1,hin'.2⟩
     have e1:decide ((48:Int)≤((x.toNat:Nat):Int))=true:=decide_eq_true (by omega)
     have e2:decide (((x.toNat:Nat):Int)≤57)=false:=decide_eq_false (by omega)
     clear hin' hd1 hdb hd2
     go_wp2_with fail;refine wp_region_held_drew (S:=fun w'=>w'.cell? ⟨b,0,none⟩=some (.string r.s)∧w'.cell? ⟨b,1,none⟩=some (.int .i64 p)) (by kernel_rfl) HS.out (fun hHeld=>?_)
     refine tkv 0 (h:=tkv 1 (h:=tkv 2 (h:=tkv 3 (h:=tkv 4 (h:=tkv 5 (h:=?_))))))
     refine tkv 6 (h:=tkv 7 (h:=tkv 8 (h:=tkv 9 (h:=tkv 10 (h:=tkv 11 (h:=?_))))))
     refine tkv 12 (h:=tkv 13 (h:=tkv 14 (h:=tkv 15 (h:=tkv 16 (h:=tkv 17 (h:=?_))))))
     refine tkv 18 (h:=tkv 19 (h:=tkv 20 (h:=tkv 21 (h:=tkv 22 (h:=tkv 23 (h:=?_))))))
     refine tkv 24 (h:=tkv 25 (h:=tkv 26 (h:=tkv 27 (h:=tkv 28 (h:=tkv 29 (h:=?_))))))
     refine tkv 30 (h:=tkv 31 (h:=tkv 32 (h:=tkv 33 (h:=?_))))
     refine wpAnyH_done (by kernel_rfl) ?_ _
     clear hHeld;obtain ⟨h0,h1⟩:=HS.out
     obtain ⟨hv,hpD⟩:=HIN.out
     subst hv;by_cases hD:D=0
     ·have hpp:((p:Int) == (r.pos:Int))=true:=by simp;omega
      have HV:Hid (V=.bad 0 70):=by
       show _=_
       rw [← hV.out];unfold qnumber;simp only;rw [if_pos (.inl (List.eq_nil_of_length_eq_zero (by rw [hDD.out];exact hD)))]
      have hpos:((r.pos:Int) == (r.pos:Int))=true:=by simp
      clear hV hD hpD
      go_wp2_with fail;refine (zAt b _ wr.drew HR.out.drew r.pos 70).mono ?_
      rintro e w3 ⟨rfl,h3,hg3⟩
      go_wp2_with fail
      go_ret2;rw [HV.out];exact ⟨⟨_,rfl,⟨0,rfl⟩,p,h3⟩,zAF (zAS hg.out) hg3⟩
     ·have hpp:((p:Int) == (r.pos:Int))=false:=by simp;omega
      have hlt0:r.pos<r.s.size:=by omega
      obtain ⟨y,HY⟩:∃ y,Hid (r.s.data.toList[r.pos]? = some y):=⟨r.s.data.toList[r.pos]'(by have:=HL.out;omega),List.getElem?_eq_getElem _⟩
      have hsy:r.s[r.pos]=y:=zAv r.s r.pos y HY.out hlt0
      have k0:(0:Int)≤(r.pos:Int):=by omega
      have k1:(r.pos:Int)<r.s.size:=by omega
      have hne:(r.s.data.toList.drop r.pos).takeWhile digB≠[]:=fun e=>hD (by rw [← hDD.out,e];rfl)
      have hyc:r.s.data.toList.drop r.pos=y :: r.s.data.toList.drop (r.pos+1):=zAY HY.out
      by_cases hy:y=48
      ·subst hy
       have HV:Hid (V=.bad 0 70):=by
        show _=_
        rw [← hV.out];unfold qnumber;simp only;rw [if_pos (.inr (.inl (by rw [hyc];exact zA4 [48] _)))]
       clear hV hD hpD hne hyc
       go_wp2_with fail;refine (zAt b _ wr.drew HR.out.drew r.pos 70).mono ?_
       rintro e w3 ⟨rfl,h3,hg3⟩
       go_wp2_with fail
       go_ret2;rw [HV.out];exact ⟨⟨_,rfl,⟨0,rfl⟩,p,h3⟩,zAF (zAS hg.out) hg3⟩
      ·have hy48:((y.toNat:Int) == 48)=false:=zHV hy
       have hp48:pre [48] (r.s.data.toList.drop r.pos)=false:=by
        rw [hyc];simp [pre,hy]
       by_cases hbig:9999<v
       ·have HV:Hid (V=.bad 0 70):=by
         show _=_
         rw [← hV.out];unfold qnumber;simp only;rw [if_pos (.inr (.inr (by rw [hNN.out];exact hbig)))]
        clear hV hD hpD hne hyc hy hp48
        go_wp2_with fail;refine (zAt b _ wr.drew HR.out.drew r.pos 70).mono ?_
        rintro e w3 ⟨rfl,h3,hg3⟩
        go_wp2_with fail
        go_ret2;rw [HV.out];exact ⟨⟨_,rfl,⟨0,rfl⟩,p,h3⟩,zAF (zAS hg.out) hg3⟩
       ·have HV:Hid (V=.ok v D):=by
         show _=_
         rw [← hV.out];unfold qnumber;simp only;rw [if_neg (by rw [hNN.out,hp48];simp [hne];omega),hNN.out,hDD.out]
        have hsm:v≤9999:=by omega
        have HP:Hid (p=r.pos+D):=by show _=_;omega
        clear hV hD hpD hne hyc hy hp48 hbig
        go_wp2_with fail
        go_ret2;rw [HV.out];refine ⟨⟨rfl,?_⟩,zAS hg.out⟩
        rw [← HP.out];exact HR.out.drew
    ·have hdb:digB x=true:=by unfold digB;simp;omega
     rw [hdb,if_pos rfl] at hin';have HIN:Hid (numQ (min (10 * v+((x.toNat:Int)-48)) 10000) ((r.s.data.toList.drop (p+1)).takeWhile digB)=N∧p+1+((r.s.data.toList.drop (p+1)).takeWhile digB).length=r.pos+D):=⟨hin'.1,by have:=hin'.2;simp only [List.length_cons] at this;omega⟩
     have e1:decide ((48:Int)≤((x.toNat:Nat):Int))=true:=decide_eq_true (by omega)
     have e2:decide (((x.toNat:Nat):Int)≤57)=true:=decide_eq_true (by omega)
     have b0:(48:Int)≤((x.toNat:Nat):Int):=by omega
     have b1:((x.toNat:Nat):Int)≤57:=by omega
     have w1:IntKind.i64.wrap (10 * v)=10 * v:=IntWalk.i64_in _ (by omega)
     have w0:IntKind.u8.wrap ((x.toNat:Int)-48)=(x.toNat:Int)-48:=IntWalk.u8_in _ (by omega)
     have w3:IntKind.i64.wrap ((x.toNat:Int)-48)=(x.toNat:Int)-48:=IntWalk.i64_in _ (by omega)
     have w2:IntKind.i64.wrap (10 * v+((x.toNat:Int)-48))=10 * v+((x.toNat:Int)-48):=IntWalk.i64_in _ (by omega)
     clear hin' hd1 hdb hd2
     go_wp2_with fail;refine wp_region_held_drew (S:=fun w'=>w'.cell? ⟨b,0,none⟩=some (.string r.s)∧w'.cell? ⟨b,1,none⟩=some (.int .i64 p)) (by kernel_rfl) HS.out (fun hHeld=>?_)
     refine tkv 0 (h:=tkv 1 (h:=tkv 2 (h:=tkv 3 (h:=tkv 4 (h:=tkv 5 (h:=?_))))))
     refine tkv 6 (h:=tkv 7 (h:=tkv 8 (h:=tkv 9 (h:=tkv 10 (h:=tkv 11 (h:=?_))))))
     refine tkv 12 (h:=tkv 13 (h:=tkv 14 (h:=tkv 15 (h:=tkv 16 (h:=tkv 17 (h:=?_))))))
     refine tkv 18 (h:=tkv 19 (h:=tkv 20 (h:=tkv 21 (h:=tkv 22 (h:=tkv 23 (h:=?_))))))
     refine tkv 24 (h:=tkv 25 (h:=tkv 26 (h:=tkv 27 (h:=tkv 28 (h:=tkv 29 (h:=?_))))))
     refine tkv 30 (h:=tkv 31 (h:=tkv 32 (h:=tkv 33 (h:=?_))))
     refine wpAnyH_done (by kernel_rfl) ?_ _
     clear hHeld;have HS1:Hid (wr.drew.drew.cell? ⟨b,0,none⟩=some (.string r.s)∧wr.drew.drew.cell? ⟨b,1,none⟩=some (.int .i64 p)):=HS.out
     go_wp2_with fail;refine wp_region_held_drew (S:=fun w'=>w'.cell? ⟨b,0,none⟩=some (.string r.s)∧w'.cell? ⟨b,1,none⟩=some (.int .i64 p)) (by kernel_rfl) HS1.out (fun hHeld=>?_)
     refine tkv 0 (h:=tkv 1 (h:=tkv 2 (h:=tkv 3 (h:=tkv 4 (h:=tkv 5 (h:=?_))))))
     refine tkv 6 (h:=tkv 7 (h:=tkv 8 (h:=tkv 9 (h:=tkv 10 (h:=tkv 11 (h:=?_))))))
     refine tkv 12 (h:=tkv 13 (h:=tkv 14 (h:=tkv 15 (h:=?_))))
     refine wpAnyH_done (by kernel_rfl) ?_ _
     clear hHeld;have f1:wr.drew.drew.frozen? ⟨b,1,none⟩=false:=HR.out.drew.drew.froz 1
     obtain ⟨h0,h1⟩:=HS1.out
     go_wp2_with fail
     go_roundg (r.s.size-(p+1))
     case measure=>omega
     case rel=>exact ⟨p+1,_,by omega,by omega,rfl,by omega,by omega,rfl,HR.out.drew.drew.pos (p+1),HIN,zAF (zAS (zAS hg.out)) (Lib.grownBy_setCell _ b 1 _)⟩
  ·have HIN:Hid (v=N∧p=r.pos+D):=by
    have h1:=hin.out
    rw [List.drop_eq_nil_of_le (by have:=HL.out;omega)] at h1
    exact ⟨h1.1,h1.2⟩
   have t3:decide ((p:Int)<r.s.size)=false:=by simp;omega
   have t4:decide (p<r.s.size)=false:=by simp;omega
   clear hin
   go_wp2_with fail;refine wp_region_held_drew (S:=fun w'=>w'.cell? ⟨b,0,none⟩=some (.string r.s)∧w'.cell? ⟨b,1,none⟩=some (.int .i64 p)) (by kernel_rfl) HS.out (fun hHeld=>?_)
   refine tkv 0 (h:=tkv 1 (h:=tkv 2 (h:=tkv 3 (h:=tkv 4 (h:=tkv 5 (h:=?_))))))
   refine tkv 6 (h:=tkv 7 (h:=tkv 8 (h:=tkv 9 (h:=tkv 10 (h:=?_)))))
   refine tkn 11 (h:=tkn 12 (h:=tkn 13 (h:=tkn 14 (h:=tkn 15 (h:=tkn 16 (h:=?_))))))
   refine tkn 17 (h:=tkn 18 (h:=tkn 19 (h:=tkn 20 (h:=?_))))
   refine tkv 21 (h:=tkv 22 (h:=?_))
   refine tkn 23 (h:=tkn 24 (h:=tkn 25 (h:=tkn 26 (h:=tkn 27 (h:=tkn 28 (h:=?_))))))
   refine tkn 29 (h:=tkn 30 (h:=tkn 31 (h:=tkn 32 (h:=?_))))
   refine tkv 33 (h:=?_)
   refine wpAnyH_done (by kernel_rfl) ?_ _
   clear hHeld;obtain ⟨h0,h1⟩:=HS.out
   obtain ⟨hv,hpD⟩:=HIN.out
   subst hv;by_cases hD:D=0
   ·have hpp:((p:Int) == (r.pos:Int))=true:=by simp;omega
    have HV:Hid (V=.bad 0 70):=by
     show _=_
     rw [← hV.out];unfold qnumber;simp only;rw [if_pos (.inl (List.eq_nil_of_length_eq_zero (by rw [hDD.out];exact hD)))]
    have hpos:((r.pos:Int) == (r.pos:Int))=true:=by simp
    clear hV hD hpD
    go_wp2_with fail;refine (zAt b _ wr.drew HR.out.drew r.pos 70).mono ?_
    rintro e w3 ⟨rfl,h3,hg3⟩
    go_wp2_with fail
    go_ret2;rw [HV.out];exact ⟨⟨_,rfl,⟨0,rfl⟩,p,h3⟩,zAF (zAS hg.out) hg3⟩
   ·have hpp:((p:Int) == (r.pos:Int))=false:=by simp;omega
    have hlt0:r.pos<r.s.size:=by omega
    obtain ⟨y,HY⟩:∃ y,Hid (r.s.data.toList[r.pos]? = some y):=⟨r.s.data.toList[r.pos]'(by have:=HL.out;omega),List.getElem?_eq_getElem _⟩
    have hsy:r.s[r.pos]=y:=zAv r.s r.pos y HY.out hlt0
    have k0:(0:Int)≤(r.pos:Int):=by omega
    have k1:(r.pos:Int)<r.s.size:=by omega
    have hne:(r.s.data.toList.drop r.pos).takeWhile digB≠[]:=fun e=>hD (by rw [← hDD.out,e];rfl)
    have hyc:r.s.data.toList.drop r.pos=y :: r.s.data.toList.drop (r.pos+1):=zAY HY.out
    by_cases hy:y=48
    ·subst hy
     have HV:Hid (V=.bad 0 70):=by
      show _=_
      rw [← hV.out];unfold qnumber;simp only;rw [if_pos (.inr (.inl (by rw [hyc];exact zA4 [48] _)))]
     clear hV hD hpD hne hyc
     go_wp2_with fail;refine (zAt b _ wr.drew HR.out.drew r.pos 70).mono ?_
     rintro e w3 ⟨rfl,h3,hg3⟩
     go_wp2_with fail
     go_ret2;rw [HV.out];exact ⟨⟨_,rfl,⟨0,rfl⟩,p,h3⟩,zAF (zAS hg.out) hg3⟩
    ·have hy48:((y.toNat:Int) == 48)=false:=zHV hy
     have hp48:pre [48] (r.s.data.toList.drop r.pos)=false:=by
      rw [hyc];simp [pre,hy]
     by_cases hbig:9999<v
     ·have HV:Hid (V=.bad 0 70):=by
       show _=_
       rw [← hV.out];unfold qnumber;simp only;rw [if_pos (.inr (.inr (by rw [hNN.out];exact hbig)))]
      clear hV hD hpD hne hyc hy hp48
      go_wp2_with fail;refine (zAt b _ wr.drew HR.out.drew r.pos 70).mono ?_
      rintro e w3 ⟨rfl,h3,hg3⟩
      go_wp2_with fail
      go_ret2;rw [HV.out];exact ⟨⟨_,rfl,⟨0,rfl⟩,p,h3⟩,zAF (zAS hg.out) hg3⟩
     ·have HV:Hid (V=.ok v D):=by
       show _=_
       rw [← hV.out];unfold qnumber;simp only;rw [if_neg (by rw [hNN.out,hp48];simp [hne];omega),hNN.out,hDD.out]
      have hsm:v≤9999:=by omega
      have HP:Hid (p=r.pos+D):=by show _=_;omega
      clear hV hD hpD hne hyc hy hp48 hbig
      go_wp2_with fail
      go_ret2;rw [HV.out];refine ⟨⟨rfl,?_⟩,zAS hg.out⟩
      rw [← HP.out];exact HR.out.drew
end
section
open Go.RowKit
theorem zAX {P:Program} {fn:Func} {p u:Tmp} {ty:TypeId} (h:fn.results=#[.cell p ty,.tmp u]) (tmps:Array Value) (w:World) (g:Nat) (t:TypeId) (cs:Array Value) (fr:Nat × Nat) (d:TypeDesc)
  (hp:tmps.getD p undef=.pointer (some ⟨g,0,none⟩)) (hg:w.heap[g]? = some (.cells cs t fr))
  (hu:P.underlying ty=some d) (hd:(match d with | .struct _ | .array _ _=>true | _=>false)=true) (hi:(P.info? ty).map (·.size)=some cs.size) :
  (results fn tmps).run P w=.ok (.tuple #[.agg cs,tmps.getD u undef]) w:=by
 have hp':tmps[p]?.getD undef=.pointer (some ⟨g,0,none⟩):=by simpa using hp
 simp [results,h,hp',asAddr,Result.andThen,run_loadVar_row w g t ty cs fr d hg hu hd hi]
def predC (p:PredD):Array Value:=#[.int .i64 p.kind,.int .i64 p.num,.string ⟨p.name.toArray⟩,.string ⟨p.value.toArray⟩]
def zeroP:Array Value:=#[.int .i64 0,.int .i64 0,.string ⟨#[]⟩,.string ⟨#[]⟩]
theorem zAz (p:PredD):(predC p).all (·.oneCell')=true:=by simp [predC,Value.oneCell']
def predNo (v:Value):Prop:=∃ p:PredD,v=.tuple #[.agg (predC p),.bool false]
theorem QAt.setRow {w:World} {b g:Nat} {r:QRdr} (h:QAt w b r) (hg:b≠g) (cs:Array Value):QAt (w.setRow g cs) b r:=by
 unfold QAt;rw [setRow_other _ _ _ _ hg];exact h
theorem zAe {w w':World} {b g:Nat} (h:w.grownBy w' (some b)) (hg:w.heap.size≤g) (cs:Array Value):w.grownBy (w'.setRow g cs) (some b) :=
 ⟨h.os,h.tape,h.output,by rw [setRow_size];exact h.size,fun k hk hne=>(setRow_other _ _ _ _ (by omega)).trans (h.block k hk hne)⟩
theorem zAa {w w':World} {b g:Nat} {o:Obj} (h:w.grownBy w' (some b)) (hne:g≠b) (ho:w.heap[g]? = some o):w'.heap[g]? = some o:=by
 rw [h.block g (Array.getElem?_eq_some_iff.1 ho).1 (by intro e;injection e with e;exact hne e)];exact ho
theorem zFM (b:Nat) (r:QRdr) (w:World) (h:QAt w b r) (hp:r.pos≤r.s.size) (hs:r.s.size≤1000000000) (V:Told PredD) (hV:Hid (qattr (r.s.data.toList.drop r.pos)=V)) :
  Calls Tryz.prog 132 #[.pointer (some ⟨b,0,none⟩)] w (QTold w b r V (fun p=>.tuple #[.agg (predC p),.bool true]) predNo):=by
 have HL:=Lib.hid (zAH r.s)
 obtain ⟨N,hN⟩:∃ N,Hid (qname (r.s.data.toList.drop r.pos)=N):=⟨_,rfl⟩
 have hw:=zCC (r.s.data.toList.drop r.pos)
 rw [hN.out,List.length_drop,HL.out] at hw;have hVV:=hV.out
 unfold qattr at hVV;rw [hN.out] at hVV;clear hV;have H:=Lib.hid h
 have hbl:=h.lt
 clear h
 go_enter Tryz.func132,Tryz.ntmps132
 go_wp2_with fail;obtain ⟨W1,hW1⟩:∃ W1,Hid (W1=w.alloc (.cells zeroP 102)):=⟨_,rfl⟩
 change Calls _ _ _ (w.alloc (.cells zeroP 102)) _
 rw [← hW1.out];have hbn:w.heap.size≠b:=by omega
 have hg1:Hid (w.grownBy W1 (some b)):=by show _;rw [hW1.out];exact Lib.grownBy_below (World.grownBy.refl w _) ((Below.refl _ w).alloc (Nat.le_refl _) _)
 have HT1:Hid (W1.heap[w.heap.size]? = some (.cells zeroP 102 (0,0))):=by show _=_;rw [hW1.out];exact heap_alloc_new w _
 have HR1:Hid (QAt W1 b r):=by show QAt _ _ _;rw [hW1.out];exact H.out.below ((Below.refl _ w).alloc (Nat.le_refl _) _)
 refine (zHr b r W1 HR1.out hp hs N hN).mono ?_
 cases N with
 | bad k c =>
  have HV:Hid (V=.bad k c):=hVV.symm
  clear hVV hw;rintro e w2 ⟨⟨v,rfl,rfl,p,h2⟩,hg2⟩;have HT2:Hid (w2.heap[w.heap.size]? = some (.cells zeroP 102 (0,0))):=zAa hg2 hbn HT1.out
  go_wp2_with (refine wpList_store_row rfl 102 (.tmp 2) (.tmp 20) rfl w.heap.size (predC ⟨3,0,[],[]⟩) rfl rfl 102 zeroP HT2.out (by kernel_rfl) rfl (zAz _) ?_)
  try simp only [Exit.inBlock,Exit.then]
  refine bodyPost_ret (zAX Tryz.results132 _ _ w.heap.size 102 (predC ⟨3,0,[],[]⟩) (0,0) _ rfl (setRow_heap _ _ _ _ _ _ HT2.out) Tryz.underlying102 rfl (by kernel_rfl)) rfl ?_
  rw [HV.out];exact ⟨⟨_,rfl,⟨⟨3,0,[],[]⟩,rfl⟩,p,h2.setRow hbn.symm _⟩,zAe (zAF hg1.out hg2) (Nat.le_refl _) _⟩
 | ok s n =>
  obtain ⟨w1,w2'⟩:=hw
  simp only at hVV
  rw [List.drop_drop,List.drop_drop] at hVV;rintro e w2 ⟨⟨rfl,h2⟩,hg2⟩;have HT2:Hid (w2.heap[w.heap.size]? = some (.cells zeroP 102 (0,0))):=zAa hg2 hbn HT1.out
  have hpn:r.pos+n≤r.s.size:=by omega
  clear w1 w2'
  go_wp2_with fail;cases hq:pre [61] (r.s.data.toList.drop (r.pos+n)) with
  | false =>
   have HQ:Hid (pre [61] (r.s.data.toList.drop (r.pos+n))=false):=hq
   rw [if_pos hq] at hVV;have HV:Hid (V=.ok ⟨3,0,s,[]⟩ n):=hVV.symm
   clear hVV hq;refine (zAw b _ w2 h2 [61] hpn hs false HQ (by decide)).mono ?_
   rintro e w3 ⟨rfl,h3,hg3⟩;have HT3:Hid (w3.heap[w.heap.size]? = some (.cells zeroP 102 (0,0))):=zAa hg3 hbn HT2.out
   go_wp2_with (refine wpList_store_row rfl 102 (.tmp 2) (.tmp 20) rfl w.heap.size (predC ⟨3,0,s,[]⟩) rfl rfl 102 zeroP HT3.out (by kernel_rfl) rfl (zAz _) ?_)
   try simp only [Exit.inBlock,Exit.then]
   refine bodyPost_ret (zAX Tryz.results132 _ _ w.heap.size 102 (predC ⟨3,0,s,[]⟩) (0,0) _ rfl (setRow_heap _ _ _ _ _ _ HT3.out) Tryz.underlying102 rfl (by kernel_rfl)) rfl ?_
   rw [HV.out];exact ⟨⟨rfl,QAt.setRow h3 hbn.symm _⟩,zAe (zAF (zAF hg1.out hg2) hg3) (Nat.le_refl _) _⟩
  | true =>
   have HQ:Hid (pre [61] (r.s.data.toList.drop (r.pos+n))=true):=hq
   have hq1:=zBk hq
   rw [HL.out] at hq1;rw [if_neg (by rw [hq];decide),show r.pos+(n+1)=r.pos+n+1 by omega] at hVV
   clear hq;refine (zAw b _ w2 h2 [61] hpn hs true HQ (by decide)).mono ?_
   rintro e w3 ⟨rfl,h3,hg3⟩;have HT3:Hid (w3.heap[w.heap.size]? = some (.cells zeroP 102 (0,0))):=zAa hg3 hbn HT2.out
   have HR3:Hid (QAt w3 b { r with pos:=r.pos+n+1 }):=h3
   obtain ⟨U,hU⟩:∃ U,Hid (qvalue (r.s.data.toList.drop (r.pos+n+1))=U):=⟨_,rfl⟩
   rw [hU.out] at hVV;clear h3 h2
   go_wp2_with fail;refine (zGt b { r with pos:=r.pos+n+1 } w3 HR3.out hq1 hs U hU).mono ?_
   cases U with
   | bad k c =>
    have HV:Hid (V=.bad (n+1+k) c):=hVV.symm
    clear hVV;rintro e w4 ⟨⟨v,rfl,rfl,p,h4⟩,hg4⟩;have HT4:Hid (w4.heap[w.heap.size]? = some (.cells zeroP 102 (0,0))):=zAa hg4 hbn HT3.out
    go_wp2_with (refine wpList_store_row rfl 102 (.tmp 2) (.tmp 29) rfl w.heap.size (predC ⟨4,0,s,[]⟩) rfl rfl 102 zeroP HT4.out (by kernel_rfl) rfl (zAz _) ?_)
    try simp only [Exit.inBlock,Exit.then]
    refine bodyPost_ret (zAX Tryz.results132 _ _ w.heap.size 102 (predC ⟨4,0,s,[]⟩) (0,0) _ rfl (setRow_heap _ _ _ _ _ _ HT4.out) Tryz.underlying102 rfl (by kernel_rfl)) rfl ?_
    rw [HV.out];refine ⟨⟨_,rfl,⟨⟨4,0,s,[]⟩,rfl⟩,p,?_⟩,zAe (zAF (zAF (zAF hg1.out hg2) hg3) hg4) (Nat.le_refl _) _⟩
    rw [show r.pos+(n+1+k)=r.pos+n+1+k by omega]
    exact QAt.setRow h4 hbn.symm _
   | ok u m =>
    have HV:Hid (V=.ok ⟨4,0,s,u⟩ (n+1+m)):=hVV.symm
    clear hVV;rintro e w4 ⟨⟨rfl,h4⟩,hg4⟩;have HT4:Hid (w4.heap[w.heap.size]? = some (.cells zeroP 102 (0,0))):=zAa hg4 hbn HT3.out
    go_wp2_with (refine wpList_store_row rfl 102 (.tmp 2) (.tmp 29) rfl w.heap.size (predC ⟨4,0,s,u⟩) rfl rfl 102 zeroP HT4.out (by kernel_rfl) rfl (zAz _) ?_)
    try simp only [Exit.inBlock,Exit.then]
    refine bodyPost_ret (zAX Tryz.results132 _ _ w.heap.size 102 (predC ⟨4,0,s,u⟩) (0,0) _ rfl (setRow_heap _ _ _ _ _ _ HT4.out) Tryz.underlying102 rfl (by kernel_rfl)) rfl ?_
    rw [HV.out];refine ⟨⟨rfl,?_⟩,zAe (zAF (zAF (zAF hg1.out hg2) hg3) hg4) (Nat.le_refl _) _⟩
    rw [show r.pos+(n+1+m)=r.pos+n+1+m by omega]
    exact QAt.setRow h4 hbn.symm _
end
section
open Go.RowKit
theorem zLA (b:Nat) (r:QRdr) (w:World) (h:QAt w b r) (hp:r.pos≤r.s.size) (hs:r.s.size≤1000000000) (V:Told PredD) (hV:Hid (qpred (r.s.data.toList.drop r.pos)=V)) :
  Calls Tryz.prog 122 #[.pointer (some ⟨b,0,none⟩)] w (QTold w b r V (fun p=>.tuple #[.agg (predC p),.bool true]) predNo):=by
 have HL:=Lib.hid (zAH r.s)
 have hVV:=hV.out
 unfold qpred at hVV;clear hV;have H:=Lib.hid h
 have hbl:=h.lt
 clear h
 go_enter Tryz.func122,Tryz.ntmps122
 go_wp2_with fail;obtain ⟨W1,hW1⟩:∃ W1,Hid (W1=w.alloc (.cells zeroP 102)):=⟨_,rfl⟩
 change Calls _ _ _ (w.alloc (.cells zeroP 102)) _
 rw [← hW1.out];have hbn:w.heap.size≠b:=by omega
 have hg1:Hid (w.grownBy W1 (some b)):=by show _;rw [hW1.out];exact Lib.grownBy_below (World.grownBy.refl w _) ((Below.refl _ w).alloc (Nat.le_refl _) _)
 have HT1:Hid (W1.heap[w.heap.size]? = some (.cells zeroP 102 (0,0))):=by show _=_;rw [hW1.out];exact heap_alloc_new w _
 have HR1:Hid (QAt W1 b r):=by show QAt _ _ _;rw [hW1.out];exact H.out.below ((Below.refl _ w).alloc (Nat.le_refl _) _)
 cases hq:pre [64] (r.s.data.toList.drop r.pos) with
 | true =>
  have HQ:Hid (pre [64] (r.s.data.toList.drop r.pos)=true):=hq
  have hq1:=zBk hq
  rw [HL.out] at hq1;rw [if_pos hq,List.drop_drop] at hVV;clear hq;refine (zAw b _ W1 HR1.out [64] hp hs true HQ (by decide)).mono ?_
  rintro e w2 ⟨rfl,h2,hg2⟩;have HT2:Hid (w2.heap[w.heap.size]? = some (.cells zeroP 102 (0,0))):=zAa hg2 hbn HT1.out
  have HR2:Hid (QAt w2 b { r with pos:=r.pos+1 }):=h2
  obtain ⟨U,hU⟩:∃ U,Hid (qattr (r.s.data.toList.drop (r.pos+1))=U):=⟨_,rfl⟩
  rw [hU.out] at hVV;clear h2
  go_wp2_with fail;refine (zFM b { r with pos:=r.pos+1 } w2 HR2.out hq1 hs U hU).mono ?_
  cases U with
  | bad k c =>
   have HV:Hid (V=.bad (1+k) c):=hVV.symm
   clear hVV;rintro e w4 ⟨⟨v,rfl,⟨x,rfl⟩,p,h4⟩,hg4⟩;have HT4:Hid (w4.heap[w.heap.size]? = some (.cells zeroP 102 (0,0))):=zAa hg4 hbn HT2.out
   go_wp2_with (refine wpList_store_row rfl 102 (.tmp 2) (.tmp 13) rfl w.heap.size (predC x) rfl rfl 102 zeroP HT4.out (by kernel_rfl) rfl (zAz _) ?_)
   try simp only [Exit.inBlock,Exit.then]
   refine bodyPost_ret (zAX Tryz.results122 _ _ w.heap.size 102 (predC x) (0,0) _ rfl (setRow_heap _ _ _ _ _ _ HT4.out) Tryz.underlying102 rfl (by kernel_rfl)) rfl ?_
   rw [HV.out];refine ⟨⟨_,rfl,⟨x,rfl⟩,p,?_⟩,zAe (zAF (zAF hg1.out hg2) hg4) (Nat.le_refl _) _⟩
   rw [show r.pos+(1+k)=r.pos+1+k by omega]
   exact QAt.setRow h4 hbn.symm _
  | ok x m =>
   have HV:Hid (V=.ok x (1+m)):=hVV.symm
   clear hVV;rintro e w4 ⟨⟨rfl,h4⟩,hg4⟩;have HT4:Hid (w4.heap[w.heap.size]? = some (.cells zeroP 102 (0,0))):=zAa hg4 hbn HT2.out
   go_wp2_with (refine wpList_store_row rfl 102 (.tmp 2) (.tmp 13) rfl w.heap.size (predC x) rfl rfl 102 zeroP HT4.out (by kernel_rfl) rfl (zAz _) ?_)
   try simp only [Exit.inBlock,Exit.then]
   refine bodyPost_ret (zAX Tryz.results122 _ _ w.heap.size 102 (predC x) (0,0) _ rfl (setRow_heap _ _ _ _ _ _ HT4.out) Tryz.underlying102 rfl (by kernel_rfl)) rfl ?_
   rw [HV.out];refine ⟨⟨rfl,?_⟩,zAe (zAF (zAF hg1.out hg2) hg4) (Nat.le_refl _) _⟩
   rw [show r.pos+(1+m)=r.pos+1+m by omega]
   exact QAt.setRow h4 hbn.symm _
 | false =>
  have HQ:Hid (pre [64] (r.s.data.toList.drop r.pos)=false):=hq
  rw [if_neg (by rw [hq];decide)] at hVV
  clear hq;refine (zAw b _ W1 HR1.out [64] hp hs false HQ (by decide)).mono ?_
  rintro e w2 ⟨rfl,h2,hg2⟩;have HT2:Hid (w2.heap[w.heap.size]? = some (.cells zeroP 102 (0,0))):=zAa hg2 hbn HT1.out
  have HR2:Hid (QAt w2 b r):=h2
  clear h2
  go_wp2_with fail;cases hq:pre tLast (r.s.data.toList.drop r.pos) with
  | true =>
   have HQ:Hid (pre tLast (r.s.data.toList.drop r.pos)=true):=hq
   rw [if_pos hq] at hVV;have HV:Hid (V=.ok ⟨2,0,[],[]⟩ 6):=hVV.symm
   clear hq hVV;refine (zAw b _ w2 HR2.out tLast hp hs true HQ (by decide)).mono ?_
   rintro e w3 ⟨rfl,h3,hg3⟩;have HT3:Hid (w3.heap[w.heap.size]? = some (.cells zeroP 102 (0,0))):=zAa hg3 hbn HT2.out
   have HR3:Hid (QAt w3 b { r with pos:=r.pos+6 }):=h3
   go_wp2_with (refine wpList_store_row rfl 102 (.tmp 2) (.tmp 18) rfl w.heap.size (predC ⟨2,0,[],[]⟩) rfl rfl 102 zeroP HT3.out (by kernel_rfl) rfl (zAz _) ?_)
   try simp only [Exit.inBlock,Exit.then]
   refine bodyPost_ret (zAX Tryz.results122 _ _ w.heap.size 102 (predC ⟨2,0,[],[]⟩) (0,0) _ rfl (setRow_heap _ _ _ _ _ _ HT3.out) Tryz.underlying102 rfl (by kernel_rfl)) rfl ?_
   rw [HV.out];exact ⟨⟨rfl,QAt.setRow HR3.out hbn.symm _⟩,zAe (zAF (zAF hg1.out hg2) hg3) (Nat.le_refl _) _⟩
  | false =>
   have HQ:Hid (pre tLast (r.s.data.toList.drop r.pos)=false):=hq
   rw [if_neg (by rw [hq];decide)] at hVV
   clear hq;refine (zAw b _ w2 HR2.out tLast hp hs false HQ (by decide)).mono ?_
   rintro e w3 ⟨rfl,h3,hg3⟩;have HT3:Hid (w3.heap[w.heap.size]? = some (.cells zeroP 102 (0,0))):=zAa hg3 hbn HT2.out
   have HR3:Hid (QAt w3 b r):=h3
   have hgw3:Hid (w.grownBy w3 (some b)):=zAF (zAF hg1.out hg2) hg3
   clear h3
   go_wp2_with fail;cases hq:pre tText (r.s.data.toList.drop r.pos) with
   | true =>
    have HQ:Hid (pre tText (r.s.data.toList.drop r.pos)=true):=hq
    have hq1:=zE1 (k:=r.pos) hp (by exact hq)
    rw [HL.out] at hq1;have hq2:r.pos+6≤r.s.size:=hq1
    rw [if_pos hq,List.drop_drop,List.drop_drop] at hVV;clear hq hq1;refine (zAw b _ w3 HR3.out tText hp hs true HQ (by decide)).mono ?_
    rintro e w4 ⟨rfl,h4,hg4⟩;have HT4:Hid (w4.heap[w.heap.size]? = some (.cells zeroP 102 (0,0))):=zAa hg4 hbn HT3.out
    have HR4:Hid (QAt w4 b { r with pos:=r.pos+6 }):=h4
    clear h4
    go_wp2_with fail;cases hq:pre [61] (r.s.data.toList.drop (r.pos+6)) with
    | false =>
     have HQ2:Hid (pre [61] (r.s.data.toList.drop (r.pos+6))=false):=hq
     rw [if_pos hq] at hVV;have HV:Hid (V=.bad 6 70):=hVV.symm
     clear hq hVV;refine (zBN b { r with pos:=r.pos+6 } w4 HR4.out [61] hq2 hs false HQ2 (by decide)).mono ?_
     rintro e w5 ⟨rfl,h5,hg5⟩;have HT5:Hid (w5.heap[w.heap.size]? = some (.cells zeroP 102 (0,0))):=zAa hg5 hbn HT4.out
     go_wp2_with (refine wpList_store_row rfl 102 (.tmp 2) (.tmp 25) rfl w.heap.size (predC ⟨0,0,[],[]⟩) rfl rfl 102 zeroP HT5.out (by kernel_rfl) rfl (zAz _) ?_)
     try simp only [Exit.inBlock,Exit.then]
     refine bodyPost_ret (zAX Tryz.results122 _ _ w.heap.size 102 (predC ⟨0,0,[],[]⟩) (0,0) _ rfl (setRow_heap _ _ _ _ _ _ HT5.out) Tryz.underlying102 rfl (by kernel_rfl)) rfl ?_
     rw [HV.out];exact ⟨⟨_,rfl,⟨⟨0,0,[],[]⟩,rfl⟩,r.pos+6,QAt.setRow h5 hbn.symm _⟩,zAe (zAF (zAF hgw3.out hg4) hg5) (Nat.le_refl _) _⟩
    | true =>
     have HQ2:Hid (pre [61] (r.s.data.toList.drop (r.pos+6))=true):=hq
     have hq3:=zBk hq
     rw [HL.out] at hq3;have hq4:r.pos+7≤r.s.size:=hq3
     rw [if_neg (by rw [hq];decide)] at hVV
     clear hq hq3;refine (zBN b { r with pos:=r.pos+6 } w4 HR4.out [61] hq2 hs true HQ2 (by decide)).mono ?_
     rintro e w5 ⟨rfl,h5,hg5⟩;have HT5:Hid (w5.heap[w.heap.size]? = some (.cells zeroP 102 (0,0))):=zAa hg5 hbn HT4.out
     have HR5:Hid (QAt w5 b { r with pos:=r.pos+7 }):=h5
     have hgw5:Hid (w.grownBy w5 (some b)):=zAF (zAF hgw3.out hg4) hg5
     obtain ⟨U,hU⟩:∃ U,Hid (qvalue (r.s.data.toList.drop (r.pos+7))=U):=⟨_,rfl⟩
     rw [hU.out] at hVV;clear h5
     go_wp2_with fail;refine (zGt b { r with pos:=r.pos+7 } w5 HR5.out hq4 hs U hU).mono ?_
     cases U with
     | bad k c =>
      have HV:Hid (V=.bad (7+k) c):=hVV.symm
      clear hVV;rintro e w6 ⟨⟨v,rfl,rfl,p,h6⟩,hg6⟩;have HT6:Hid (w6.heap[w.heap.size]? = some (.cells zeroP 102 (0,0))):=zAa hg6 hbn HT5.out
      go_wp2_with (refine wpList_store_row rfl 102 (.tmp 2) (.tmp 32) rfl w.heap.size (predC ⟨5,0,[],[]⟩) rfl rfl 102 zeroP HT6.out (by kernel_rfl) rfl (zAz _) ?_)
      try simp only [Exit.inBlock,Exit.then]
      refine bodyPost_ret (zAX Tryz.results122 _ _ w.heap.size 102 (predC ⟨5,0,[],[]⟩) (0,0) _ rfl (setRow_heap _ _ _ _ _ _ HT6.out) Tryz.underlying102 rfl (by kernel_rfl)) rfl ?_
      rw [HV.out];refine ⟨⟨_,rfl,⟨⟨5,0,[],[]⟩,rfl⟩,p,?_⟩,zAe (zAF hgw5.out hg6) (Nat.le_refl _) _⟩
      rw [show r.pos+(7+k)=r.pos+7+k by omega]
      exact QAt.setRow h6 hbn.symm _
     | ok u m =>
      have HV:Hid (V=.ok ⟨5,0,[],u⟩ (7+m)):=hVV.symm
      clear hVV;rintro e w6 ⟨⟨rfl,h6⟩,hg6⟩;have HT6:Hid (w6.heap[w.heap.size]? = some (.cells zeroP 102 (0,0))):=zAa hg6 hbn HT5.out
      go_wp2_with (refine wpList_store_row rfl 102 (.tmp 2) (.tmp 32) rfl w.heap.size (predC ⟨5,0,[],u⟩) rfl rfl 102 zeroP HT6.out (by kernel_rfl) rfl (zAz _) ?_)
      try simp only [Exit.inBlock,Exit.then]
      refine bodyPost_ret (zAX Tryz.results122 _ _ w.heap.size 102 (predC ⟨5,0,[],u⟩) (0,0) _ rfl (setRow_heap _ _ _ _ _ _ HT6.out) Tryz.underlying102 rfl (by kernel_rfl)) rfl ?_
      rw [HV.out];refine ⟨⟨rfl,?_⟩,zAe (zAF hgw5.out hg6) (Nat.le_refl _) _⟩
      rw [show r.pos+(7+m)=r.pos+7+m by omega]
      exact QAt.setRow h6 hbn.symm _
   | false =>
    have HQ:Hid (pre tText (r.s.data.toList.drop r.pos)=false):=hq
    rw [if_neg (by rw [hq];decide)] at hVV
    clear hq;refine (zAw b _ w3 HR3.out tText hp hs false HQ (by decide)).mono ?_
    rintro e w4 ⟨rfl,h4,hg4⟩;have HT4:Hid (w4.heap[w.heap.size]? = some (.cells zeroP 102 (0,0))):=zAa hg4 hbn HT3.out
    have HR4:Hid (QAt w4 b r):=h4
    obtain ⟨U,hU⟩:∃ U,Hid (qnumber (r.s.data.toList.drop r.pos)=U):=⟨_,rfl⟩
    rw [hU.out] at hVV;clear h4
    go_wp2_with fail;refine (zIe b r w4 HR4.out hp hs U hU).mono ?_
    cases U with
    | bad k c =>
     have HV:Hid (V=.bad k c):=hVV.symm
     clear hVV;rintro e w6 ⟨⟨v,rfl,⟨n,rfl⟩,p,h6⟩,hg6⟩;have HT6:Hid (w6.heap[w.heap.size]? = some (.cells zeroP 102 (0,0))):=zAa hg6 hbn HT4.out
     go_wp2_with (refine wpList_store_row rfl 102 (.tmp 2) (.tmp 40) rfl w.heap.size (predC ⟨1,n,[],[]⟩) rfl rfl 102 zeroP HT6.out (by kernel_rfl) rfl (zAz _) ?_)
     try simp only [Exit.inBlock,Exit.then]
     refine bodyPost_ret (zAX Tryz.results122 _ _ w.heap.size 102 (predC ⟨1,n,[],[]⟩) (0,0) _ rfl (setRow_heap _ _ _ _ _ _ HT6.out) Tryz.underlying102 rfl (by kernel_rfl)) rfl ?_
     rw [HV.out];exact ⟨⟨_,rfl,⟨⟨1,n,[],[]⟩,rfl⟩,p,QAt.setRow h6 hbn.symm _⟩,zAe (zAF (zAF hgw3.out hg4) hg6) (Nat.le_refl _) _⟩
    | ok n m =>
     have HV:Hid (V=.ok ⟨1,n,[],[]⟩ m):=hVV.symm
     clear hVV;rintro e w6 ⟨⟨rfl,h6⟩,hg6⟩;have HT6:Hid (w6.heap[w.heap.size]? = some (.cells zeroP 102 (0,0))):=zAa hg6 hbn HT4.out
     go_wp2_with (refine wpList_store_row rfl 102 (.tmp 2) (.tmp 40) rfl w.heap.size (predC ⟨1,n,[],[]⟩) rfl rfl 102 zeroP HT6.out (by kernel_rfl) rfl (zAz _) ?_)
     try simp only [Exit.inBlock,Exit.then]
     refine bodyPost_ret (zAX Tryz.results122 _ _ w.heap.size 102 (predC ⟨1,n,[],[]⟩) (0,0) _ rfl (setRow_heap _ _ _ _ _ _ HT6.out) Tryz.underlying102 rfl (by kernel_rfl)) rfl ?_
     rw [HV.out];exact ⟨⟨rfl,QAt.setRow h6 hbn.symm _⟩,zAe (zAF (zAF hgw3.out hg4) hg6) (Nat.le_refl _) _⟩
end
section
open Go.RowKit
abbrev QSlot:=StepD × Option Addr × Nat
def cellsP (p:PredD):List Value:=[.int .i64 p.kind,.int .i64 p.num,.string ⟨p.name.toArray⟩,.string ⟨p.value.toArray⟩]
def cellsS (s:QSlot):List Value:=[.int .i64 s.1.axis,.int .i64 s.1.test,.string ⟨s.1.name.toArray⟩,.slice s.2.1 s.1.preds.length s.2.2]
theorem zCr (p:PredD):(cellsP p).length=4:=rfl
theorem zAj (s:QSlot):(cellsS s).length=4:=rfl
theorem zEn (p:PredD):∀ u∈cellsP p,u.oneCell'=true:=by
 intro u hu;simp [cellsP] at hu
 rcases hu with rfl | rfl | rfl | rfl <;> rfl
theorem zDG (s:QSlot):∀ u∈cellsS s,u.oneCell'=true:=by
 intro u hu;simp [cellsS] at hu
 rcases hu with rfl | rfl | rfl | rfl <;> rfl
theorem zHn:(Tryz.prog.info? 102).map (fun i=>(i.zero,i.size,i.bytes))=some (some (.agg #[.int .i64 0,.int .i64 0,.string ByteArray.empty,.string ByteArray.empty]),4,48):=by kernel_rfl
theorem zDg:(Tryz.prog.info? 45).map (fun i=>(i.zero,i.size,i.bytes))=some (some (.agg #[.int .i64 0,.int .i64 0,.string ByteArray.empty,.slice none 0 0]),4,56):=by kernel_rfl
def PredsOwn (w:World) (B:Nat) (A:Option Addr) (c:Nat) (l:List PredD):Prop:=w.ownsRow B 102 4 (.slice A l.length c) l.length (l.flatMap cellsP)
def StepsOwn (w:World) (B:Nat) (A:Option Addr) (c:Nat) (S:List QSlot):Prop:=w.ownsRow B 45 4 (.slice A S.length c) S.length (S.flatMap cellsS)
def SPreds (w:World) (B:Nat) (S:List QSlot):Prop:=∀ x∈S,PredsOwn w B x.2.1 x.2.2 x.1.preds
section
variable {w w':World} {B b:Nat} {r:QRdr} {A:Option Addr} {c:Nat} {S:List QSlot} {l:List PredD}
theorem zER {e:TypeId} {size:Nat} {v:Value} {n:Nat} {xs:List Value} (hq:QAt w b r) (h:w.ownsRow B e size v n xs) (he:e≠126):v.ownBlock=none∨v.ownBlock≠some b:=by
 cases hv:v.ownBlock with
 | none=>exact .inl rfl
 | some g =>
  refine .inr fun hg=>?_
  injection hg with hg
  subst hg;obtain ⟨_,_,cur,hc⟩:=zBR h g hv
  unfold QAt at hq;rw [hc] at hq
  injection hq with hq
  injection hq with _ hq
  exact he hq
theorem StepsOwn.grown (h:StepsOwn w B A c S) (hq:QAt w b r) (hg:w.grownBy w' (some b)):StepsOwn w' B A c S:=h.kept hg (zER hq h (by decide))
theorem SPreds.grown (h:SPreds w B S) (hq:QAt w b r) (hg:w.grownBy w' (some b)):SPreds w' B S:=fun x hx=>(h x hx).kept hg (zER hq (h x hx) (by decide))
theorem zCN {e:TypeId} {size:Nat} {v:Value} {n:Nat} {xs:List Value} (h:w.ownsRow B e size v n xs) (hb:Below w.heap.size w w'):w'.ownsRow B e size v n xs:=by
 refine ⟨h.1,?_⟩
 rcases h.2 with h | ⟨g,cap,cur,h1,h2,h3,h4⟩
 ·exact .inl h
 ·exact .inr ⟨g,cap,cur,h1,h2,by rw [hb.block g (Array.getElem?_eq_some_iff.1 h3).1];exact h3,h4⟩
theorem zAh (hg:w.grownBy w' (some b)) (hb:B≤b) (hw:B≤w.heap.size):Below B w w' :=
 (Below.refl B w).grown hg hw (fun k hk=>by injection hk with hk;omega)
end
theorem StepsOwn.last {w:World} {B g c:Nat} {S:List QSlot} {x:QSlot} (h:StepsOwn w B (some ⟨g,0,none⟩) c (S++[x])) :
  B≤g∧g<w.heap.size∧(∃ cur,w.heap[g]? = some (.cells cur 45 (0,0))) ∧ ∀ j u,(cellsS x)[j]? = some u→w.cell? ⟨g,S.length * 4+j,none⟩=some u:=by
 obtain ⟨g',e,h1,h2,h3,h4⟩:=zBn cellsS zAj h (by simp)
 injection e with e
 injection e with e
 subst e;refine ⟨h1,h2,h3,fun j u hu=>?_⟩
 have:=h4 S.length x j u (by simp) hu
 rwa [zAm] at this
theorem StepsOwn.set {w:World} {B g c:Nat} {S:List QSlot} {x y:QSlot} (h:StepsOwn w B (some ⟨g,0,none⟩) c (S++[x])) (j:Nat) (u:Value) (hj:j<4) (hy:cellsS y=(cellsS x).set j u) :
  StepsOwn (w.setCell ⟨g,S.length * 4+j,none⟩ u) B (some ⟨g,0,none⟩) c (S++[y]):=by
 unfold StepsOwn at h ⊢;have h1:=zHH h (S.length * 4+j) u
 rw [zJV cellsS 4 zAj (S++[x]) S.length j x y u (by simp) hj hy] at h1
 simpa using h1
theorem QAt.other {w w':World} {b g:Nat} {r:QRdr} (h:QAt w b r) (hg:w.grownBy w' (some g)) (hne:b≠g):QAt w' b r:=by
 unfold QAt;rw [hg.block b h.lt (by intro e;injection e with e;exact hne e)];exact h
def StepPost (w:World) (B b:Nat) (r:QRdr) (g:Nat) (S:List QSlot) (V:Told QSlot) (e:Ending) (w':World):Prop :=
 Below B w w'∧match V with
 | .ok x n=>e=.returned (.bool true)∧QAt w' b { r with pos:=r.pos+n }∧StepsOwn w' B (some ⟨g,0,none⟩) r.c (S++[x])∧SPreds w' B (S++[x])
 | .bad k c=>e=.returned (.bool false) ∧ ∃ p:Nat,QAt w' b { r with pos:=p,bad:=((r.pos+k:Nat):Int),code:=c }
def testTold (x:QSlot):Told (Int × List UInt8)→Told QSlot
 | .ok t n=>.ok ({ x.1 with test:=t.1,name:=t.2 },x.2) n
 | .bad k c=>.bad k c
theorem SPreds.same {w:World} {B:Nat} {S:List QSlot} {x y:QSlot} (h:SPreds w B (S++[x])) (h1:y.1.preds=x.1.preds) (h2:y.2=x.2):SPreds w B (S++[y]):=by
 intro z hz;rcases List.mem_append.1 hz with hz | hz
 ·exact h z (by simp [hz])
 ·simp at hz;subst hz
  rw [h1,h2];exact h x (by simp)
theorem SPreds.stored {w w':World} {B g c:Nat} {S T:List QSlot} (h:SPreds w B S) (hs:StepsOwn w B (some ⟨g,0,none⟩) c T) (hg:w.grownBy w' (some g)):SPreds w' B S:=fun x hx=>zBo (h x hx) hs (by decide) hg
theorem zLY (b B:Nat) (r:QRdr) (w:World) (h:QAt w b r) (hB:B≤b) (hBw:B≤w.heap.size) (hp:r.pos≤r.s.size) (hs:r.s.size≤1000000000) (g:Nat) (S:List QSlot) (x:QSlot) (hS:Hid (StepsOwn w B (some ⟨g,0,none⟩) r.c (S++[x]))) (hP:Hid (SPreds w B (S++[x]))) (hxn:Hid (x.1.name=[]))
  (o:Nat) (ho:Hid (S.length * 4=o)) (V:Told (Int × List UInt8)) (hV:Hid (qtest (r.s.data.toList.drop r.pos)=V)) :
  Calls Tryz.prog 121 #[.pointer (some ⟨b,0,none⟩),.pointer (some ⟨g,o,none⟩)] w (StepPost w B b r g S (testTold x V)):=by
 have HR:=Lib.hid h
 have HL:=Lib.hid (zAH r.s)
 have hVV:=hV.out
 unfold qtest at hVV;clear hV h;have hg0:w.grownBy w (some b):=World.grownBy.refl w _
 go_enter Tryz.func121,Tryz.ntmps121
 go_wp2_with fail;cases hq:pre [42] (r.s.data.toList.drop r.pos) with
 | true =>
  have HQ:Hid (pre [42] (r.s.data.toList.drop r.pos)=true):=hq
  rw [if_pos hq] at hVV;have HV:Hid (V=.ok (2,[]) 1):=hVV.symm
  clear hq hVV;refine (zAw b r w HR.out [42] hp hs true HQ (by decide)).mono ?_
  rintro e w9 ⟨rfl,h9,hg9⟩;have HR9:Hid (QAt w9 b { r with pos:=r.pos+1 }):=h9
  have HS9:=Lib.hid (hS.out.grown HR.out (zAF hg0 hg9))
  have HP9:=Lib.hid (hP.out.grown HR.out (zAF hg0 hg9))
  have hb9:=Lib.hid (zAh (zAF hg0 hg9) hB hBw)
  obtain ⟨k1,k2,⟨cur,k3⟩,k4⟩:=HS9.out.last
  have hne:b≠g:=fun e=>by
   have h5:=HR9.out
   unfold QAt at h5;rw [e,k3] at h5
   injection h5 with h5
   injection h5 with _ h5
   exact absurd h5 (by decide)
  have c1:w9.cell? ⟨g,o+1,none⟩=some (.int .i64 x.1.test):=by rw [← ho.out];exact k4 1 _ rfl
  have f1:w9.frozen? ⟨g,o+1,none⟩=false:=frozen_of_row w9 g (o+1) _ _ k3
  clear h9 k1 k2 k3 k4
  go_wp2_with fail
  go_ret;rw [HV.out];have hgg:=Lib.grownBy_setCell w9 g (o+1) (.int .i64 2)
  refine ⟨(hb9.out).setCell (by have:=(HS9.out.last).1;exact this) _,rfl,HR9.out.other hgg hne,?_,?_⟩
  ·have:=HS9.out.set (y:=({ x.1 with test:=2,name:=[] },x.2)) 1 (.int .i64 2) (by decide) (by simp [cellsS,hxn.out])
   rw [ho.out] at this;exact this
  ·exact (HP9.out.stored HS9.out hgg).same rfl rfl
 | false =>
  have HQ:Hid (pre [42] (r.s.data.toList.drop r.pos)=false):=hq
  rw [if_neg (by rw [hq];decide)] at hVV
  clear hq;refine (zAw b r w HR.out [42] hp hs false HQ (by decide)).mono ?_
  rintro e w2 ⟨rfl,h2,hg2⟩;have HR2:Hid (QAt w2 b r):=h2
  clear h2
  go_wp2_with fail;cases hq:pre tText (r.s.data.toList.drop r.pos) with
  | true =>
   have HQ:Hid (pre tText (r.s.data.toList.drop r.pos)=true):=hq
   rw [if_pos hq] at hVV;have HV:Hid (V=.ok (3,[]) 6):=hVV.symm
   clear hq hVV;refine (zAw b r w2 HR2.out [116,101,120,116,40,41] hp hs true HQ (by decide)).mono ?_
   rintro e w9 ⟨rfl,h9,hg9⟩;have HR9:Hid (QAt w9 b { r with pos:=r.pos+6 }):=h9
   have HS9:=Lib.hid (hS.out.grown HR.out (zAF hg2 hg9))
   have HP9:=Lib.hid (hP.out.grown HR.out (zAF hg2 hg9))
   have hb9:=Lib.hid (zAh (zAF hg2 hg9) hB hBw)
   obtain ⟨k1,k2,⟨cur,k3⟩,k4⟩:=HS9.out.last
   have hne:b≠g:=fun e=>by
    have h5:=HR9.out
    unfold QAt at h5;rw [e,k3] at h5
    injection h5 with h5
    injection h5 with _ h5
    exact absurd h5 (by decide)
   have c1:w9.cell? ⟨g,o+1,none⟩=some (.int .i64 x.1.test):=by rw [← ho.out];exact k4 1 _ rfl
   have f1:w9.frozen? ⟨g,o+1,none⟩=false:=frozen_of_row w9 g (o+1) _ _ k3
   clear h9 k1 k2 k3 k4
   go_wp2_with fail
   go_ret;rw [HV.out];have hgg:=Lib.grownBy_setCell w9 g (o+1) (.int .i64 3)
   refine ⟨(hb9.out).setCell (by have:=(HS9.out.last).1;exact this) _,rfl,HR9.out.other hgg hne,?_,?_⟩
   ·have:=HS9.out.set (y:=({ x.1 with test:=3,name:=[] },x.2)) 1 (.int .i64 3) (by decide) (by simp [cellsS,hxn.out])
    rw [ho.out] at this;exact this
   ·exact (HP9.out.stored HS9.out hgg).same rfl rfl
  | false =>
   have HQ:Hid (pre tText (r.s.data.toList.drop r.pos)=false):=hq
   rw [if_neg (by rw [hq];decide)] at hVV
   clear hq;refine (zAw b r w2 HR2.out [116,101,120,116,40,41] hp hs false HQ (by decide)).mono ?_
   rintro e w3 ⟨rfl,h3,hg3'⟩;have HR3:Hid (QAt w3 b r):=h3
   have hg3:=zAF hg2 hg3'
   clear h3
   go_wp2_with fail;cases hq:pre tNode (r.s.data.toList.drop r.pos) with
   | true =>
    have HQ:Hid (pre tNode (r.s.data.toList.drop r.pos)=true):=hq
    rw [if_pos hq] at hVV;have HV:Hid (V=.ok (4,[]) 6):=hVV.symm
    clear hq hVV;refine (zAw b r w3 HR3.out [110,111,100,101,40,41] hp hs true HQ (by decide)).mono ?_
    rintro e w9 ⟨rfl,h9,hg9⟩;have HR9:Hid (QAt w9 b { r with pos:=r.pos+6 }):=h9
    have HS9:=Lib.hid (hS.out.grown HR.out (zAF hg3 hg9))
    have HP9:=Lib.hid (hP.out.grown HR.out (zAF hg3 hg9))
    have hb9:=Lib.hid (zAh (zAF hg3 hg9) hB hBw)
    obtain ⟨k1,k2,⟨cur,k3⟩,k4⟩:=HS9.out.last
    have hne:b≠g:=fun e=>by
     have h5:=HR9.out
     unfold QAt at h5;rw [e,k3] at h5
     injection h5 with h5
     injection h5 with _ h5
     exact absurd h5 (by decide)
    have c1:w9.cell? ⟨g,o+1,none⟩=some (.int .i64 x.1.test):=by rw [← ho.out];exact k4 1 _ rfl
    have f1:w9.frozen? ⟨g,o+1,none⟩=false:=frozen_of_row w9 g (o+1) _ _ k3
    clear h9 k1 k2 k3 k4
    go_wp2_with fail
    go_ret;rw [HV.out];have hgg:=Lib.grownBy_setCell w9 g (o+1) (.int .i64 4)
    refine ⟨(hb9.out).setCell (by have:=(HS9.out.last).1;exact this) _,rfl,HR9.out.other hgg hne,?_,?_⟩
    ·have:=HS9.out.set (y:=({ x.1 with test:=4,name:=[] },x.2)) 1 (.int .i64 4) (by decide) (by simp [cellsS,hxn.out])
     rw [ho.out] at this;exact this
    ·exact (HP9.out.stored HS9.out hgg).same rfl rfl
   | false =>
    have HQ:Hid (pre tNode (r.s.data.toList.drop r.pos)=false):=hq
    rw [if_neg (by rw [hq];decide)] at hVV
    clear hq;refine (zAw b r w3 HR3.out [110,111,100,101,40,41] hp hs false HQ (by decide)).mono ?_
    rintro e w4 ⟨rfl,h4,hg4'⟩;have HR4:Hid (QAt w4 b r):=h4
    have hg4:=zAF hg3 hg4'
    obtain ⟨U,hU⟩:∃ U,Hid (qname (r.s.data.toList.drop r.pos)=U):=⟨_,rfl⟩
    rw [hU.out] at hVV;clear h4
    go_wp2_with fail;refine (zHr b r w4 HR4.out hp hs U hU).mono ?_
    have hstep:∀ w9,w4.grownBy w9 (some b)→StepsOwn w9 B (some ⟨g,0,none⟩) r.c (S++[x])∧SPreds w9 B (S++[x])∧Below B w w9:=fun w9 h9 =>
     ⟨hS.out.grown HR.out (zAF hg4 h9),hP.out.grown HR.out (zAF hg4 h9),zAh (zAF hg4 h9) hB hBw⟩
    have HST:=Lib.hid hstep
    clear hstep;cases U with
    | bad k c =>
     have HV:Hid (V=.bad k c):=hVV.symm
     clear hVV;rintro e w9 ⟨⟨v,rfl,rfl,p,h9⟩,hg9⟩;have HR9:=Lib.hid h9
     clear h9;obtain ⟨hs9,hp9,hb9'⟩:=HST.out w9 hg9
     have HS9:=Lib.hid hs9
     have HP9:=Lib.hid hp9
     have hb9:=Lib.hid hb9'
     clear hs9 hp9 hb9';obtain ⟨k1,k2,⟨cur,k3⟩,k4⟩:=HS9.out.last
     have hne:b≠g:=fun e=>by
      have h5:=HR9.out
      unfold QAt at h5;rw [e,k3] at h5
      injection h5 with h5
      injection h5 with _ h5
      exact absurd h5 (by decide)
     have c1:w9.cell? ⟨g,o+1,none⟩=some (.int .i64 x.1.test):=by rw [← ho.out];exact k4 1 _ rfl
     have f1:w9.frozen? ⟨g,o+1,none⟩=false:=frozen_of_row w9 g (o+1) _ _ k3
     have c2:w9.cell? ⟨g,o+2,none⟩=some (.string ⟨x.1.name.toArray⟩):=by rw [← ho.out];exact k4 2 _ rfl
     have f2:w9.frozen? ⟨g,o+2,none⟩=false:=frozen_of_row w9 g (o+2) _ _ k3
     clear k1 k2 k3 k4
     go_wp2_with fail
     go_ret;rw [HV.out];have hg1:=Lib.grownBy_setCell w9 g (o+1) (.int .i64 1)
     have hBg:B≤g:=HS9.out.last.1
     refine ⟨(hb9.out.setCell hBg _).setCell hBg _,rfl,p,?_⟩
     exact (HR9.out.other hg1 hne).other (Lib.grownBy_setCell _ g (o+2) _) hne
    | ok n m =>
     have HV:Hid (V=.ok (1,n) m):=hVV.symm
     clear hVV;rintro e w9 ⟨⟨rfl,h9⟩,hg9⟩;have HR9:=Lib.hid h9
     clear h9;obtain ⟨hs9,hp9,hb9'⟩:=HST.out w9 hg9
     have HS9:=Lib.hid hs9
     have HP9:=Lib.hid hp9
     have hb9:=Lib.hid hb9'
     clear hs9 hp9 hb9';obtain ⟨k1,k2,⟨cur,k3⟩,k4⟩:=HS9.out.last
     have hne:b≠g:=fun e=>by
      have h5:=HR9.out
      unfold QAt at h5;rw [e,k3] at h5
      injection h5 with h5
      injection h5 with _ h5
      exact absurd h5 (by decide)
     have c1:w9.cell? ⟨g,o+1,none⟩=some (.int .i64 x.1.test):=by rw [← ho.out];exact k4 1 _ rfl
     have f1:w9.frozen? ⟨g,o+1,none⟩=false:=frozen_of_row w9 g (o+1) _ _ k3
     have c2:w9.cell? ⟨g,o+2,none⟩=some (.string ⟨x.1.name.toArray⟩):=by rw [← ho.out];exact k4 2 _ rfl
     have f2:w9.frozen? ⟨g,o+2,none⟩=false:=frozen_of_row w9 g (o+2) _ _ k3
     clear k1 k2 k3 k4
     go_wp2_with fail
     go_ret;rw [HV.out];have hg1:=Lib.grownBy_setCell w9 g (o+1) (.int .i64 1)
     have hBg:B≤g:=HS9.out.last.1
     have hS1:=HS9.out.set (y:=({ x.1 with test:=1 },x.2)) 1 (.int .i64 1) (by decide) (by simp [cellsS])
     have hS2:=hS1.set (y:=({ x.1 with test:=1,name:=n },x.2)) 2 (.string ⟨n.toArray⟩) (by decide) (by simp [cellsS])
     rw [ho.out] at hS1 hS2;refine ⟨(hb9.out.setCell hBg _).setCell hBg _,rfl,(HR9.out.other hg1 hne).other (Lib.grownBy_setCell _ g (o+2) _) hne,hS2,?_⟩
     exact ((HP9.out.stored HS9.out hg1).stored hS1 (Lib.grownBy_setCell _ g (o+2) _)).same rfl rfl
end
section
open Go.RowKit
def stepC (s:StepD):Array Value:=#[.int .i64 s.axis,.int .i64 s.test,.string ⟨s.name.toArray⟩,.slice none 0 0]
def BoxS (w:World) (g:Nat) (s:StepD):Prop:=w.cell? ⟨g,0,none⟩=some (.int .i64 s.axis)∧w.cell? ⟨g,1,none⟩=some (.int .i64 s.test)∧w.cell? ⟨g,2,none⟩=some (.string ⟨s.name.toArray⟩)∧w.cell? ⟨g,3,none⟩=some (.slice none 0 0)
theorem BoxS.keep {w w':World} {g:Nat} {s:StepD} (h:BoxS w g s) (hk:∀ j,w'.cell? ⟨g,j,none⟩=w.cell? ⟨g,j,none⟩):BoxS w' g s:=by
 obtain ⟨h0,h1,h2,h3⟩:=h
 exact ⟨(hk 0).trans h0,(hk 1).trans h1,(hk 2).trans h2,(hk 3).trans h3⟩
def AddPost (w:World) (B b:Nat) (r:QRdr) (S:List QSlot) (s:StepD) (at_:Int) (e:Ending) (w':World):Prop :=
 Below B w w'∧((20≤S.length∧e=.returned (.bool false)∧QAt w' b { r with bad:=at_,code:=70 }) ∨
  (S.length<20∧e=.returned (.bool true) ∧ ∃ A c,QAt w' b { r with A:=A,n:=S.length+1,c:=c }∧StepsOwn w' B A c (S++[(s,none,0)])∧SPreds w' B (S++[(s,none,0)])))
theorem zMX (b B:Nat) (r:QRdr) (w:World) (h:QAt w b r) (hB:B≤b) (hBw:B≤w.heap.size) (S:List QSlot) (hn:r.n=S.length) (s:StepD) (at_:Int) (h20:20≤S.length) :
  Calls Tryz.prog 100 #[.pointer (some ⟨b,0,none⟩),.agg (stepC s),.int .i64 at_] w (AddPost w B b r S s at_):=by
 have H20:=Lib.hid h20
 have h20':(20:Int)≤S.length:=by omega
 obtain ⟨_,_,z2,_⟩:=h.all
 rw [hn] at z2;have HR:=Lib.hid h
 have hbl:=h.lt
 have hbne:b≠w.heap.size:=by omega
 clear h h20;show Calls Tryz.prog 100 #[.pointer (some ⟨b,0,none⟩),.agg #[.int .i64 s.axis,.int .i64 s.test,.string ⟨s.name.toArray⟩,.slice none 0 0],.int .i64 at_] w _
 go_enter Tryz.func100,Tryz.ntmps100
 go_wp2_with fail;have hb1:Below w.heap.size w (w.alloc (.cells #[.int .i64 s.axis,.int .i64 s.test,.string ⟨s.name.toArray⟩,.slice none 0 0] 45)):=(Below.refl _ w).alloc (Nat.le_refl _) _
 refine (zAt b r _ (HR.out.below hb1) at_ 70).mono ?_
 rintro e w3 ⟨rfl,h3,hg3⟩
 go_wp2_with fail
 go_ret;exact ⟨(hb1.mono hBw).trans (zAh hg3 hB (Nat.le_trans hBw hb1.size)),.inl ⟨H20.out,rfl,h3⟩⟩
theorem zLr (b B:Nat) (r:QRdr) (w:World) (h:QAt w b r) (hB:B≤b) (hBw:B≤w.heap.size) (S:List QSlot) (hn:r.n=S.length) (hS:StepsOwn w B r.A r.c S) (hP:SPreds w B S) (ax te:Int) (nm:List UInt8) (at_:Int) (h20:S.length<20) :
  Calls Tryz.prog 100 #[.pointer (some ⟨b,0,none⟩),.agg (stepC ⟨ax,te,nm,[]⟩),.int .i64 at_] w (AddPost w B b r S ⟨ax,te,nm,[]⟩ at_):=by
 have H20:=Lib.hid h20
 have h20':(S.length:Int)<20:=by omega
 obtain ⟨_,_,z2,_⟩:=h.all
 rw [hn] at z2;have hr':QAt w b { r with n:=S.length }:=by rw [← hn];exact h
 have hbl:=h.lt
 have hbne:b≠w.heap.size:=by omega
 obtain ⟨W1,hW1⟩:∃ W1,Hid (W1=w.alloc (.cells #[.int .i64 ax,.int .i64 te,.string ⟨nm.toArray⟩,.slice none 0 0] 45)):=⟨_,rfl⟩
 have hbW:Below w.heap.size w W1:=by rw [hW1.out];exact (Below.refl _ w).alloc (Nat.le_refl _) _
 have HB1:Hid (QAt W1 b { r with n:=S.length }):=hr'.below hbW
 have H2:Hid (W1.ownsRow B 45 4 (.slice r.A S.length r.c) S.length (S.flatMap cellsS)):=zCN hS hbW
 have H3:Hid (SPreds W1 B S):=fun x hx=>zCN (hP x hx) hbW
 have hz1:w.heap.size<W1.heap.size:=by rw [hW1.out];simp
 have hown2:∀ g,(Value.slice r.A S.length r.c).ownBlock=some g→g=w.heap.size→False:=fun g hg e=>by have:=(zBR hS g hg).2.1;omega
 have hownb:(Value.slice r.A S.length r.c).ownBlock≠some b:=fun hg=>by
  obtain ⟨_,_,cur,hc⟩:=zBR hS b hg
  unfold QAt at h;rw [hc] at h
  injection h with h
  injection h with _ h
  exact absurd h (by decide)
 have HOWN2:=Lib.hid hown2
 clear h hS hP h20 hr' hn;show Calls Tryz.prog 100 #[.pointer (some ⟨b,0,none⟩),.agg #[.int .i64 ax,.int .i64 te,.string ⟨nm.toArray⟩,.slice none 0 0],.int .i64 at_] w _
 go_enter Tryz.func100,Tryz.ntmps100
 go_wp2_with fail;have y:∀ (j:Nat) (u:Value),(#[.int .i64 ax,.int .i64 te,.string ⟨nm.toArray⟩,.slice none 0 0]:Array Value)[j]? = some u→W1.cell? ⟨w.heap.size,j,none⟩=some u:=fun j u hu=>by rw [hW1.out,World.cell?_alloc_at _ _ _ _ rfl];exact hu
 have HS:Hid (BoxS W1.drew w.heap.size ⟨ax,te,nm,[]⟩):=⟨y 0 _ rfl,y 1 _ rfl,y 2 _ rfl,y 3 _ rfl⟩
 have hzB:B≤W1.drew.heap.size:=Nat.le_trans hBw hbW.size
 clear y;rw [← hW1.out];refine wp_region_held_drew (S:=fun w'=>w'.cell? ⟨w.heap.size,0,none⟩=some (.int .i64 ax)∧w'.cell? ⟨w.heap.size,1,none⟩=some (.int .i64 te)∧w'.cell? ⟨w.heap.size,2,none⟩=some (.string ⟨nm.toArray⟩)∧w'.cell? ⟨w.heap.size,3,none⟩=some (.slice none 0 0)) (by kernel_rfl) HS.out (fun hHeld=>?_)
 refine tkv 0 (h:=tkv 1 (h:=tkv 2 (h:=tkv 3 (h:=?_))))
 refine tkv 5 (h:=?_)
 have z0e:W1.drew.cell? ⟨b,2,none⟩=some (.slice r.A S.length r.c):=HB1.out.all.2.2.1
 have z0d:W1.cell? ⟨b,2,none⟩=some (.slice r.A S.length r.c):=HB1.out.all.2.2.1
 have HS2:Hid (BoxS (W1.drew.alloc (.cells #[.int .i64 ax,.int .i64 te,.string ⟨nm.toArray⟩,.slice none 0 0] 45)) w.heap.size ⟨ax,te,nm,[]⟩):=BoxS.keep HS.out (fun j=>World.cell?_alloc_lt _ _ _ hz1)
 have hbd:b<W1.heap.size:=Nat.lt_of_lt_of_le hbl hbW.size
 have z0f:(W1.drew.alloc (.cells #[.int .i64 ax,.int .i64 te,.string ⟨nm.toArray⟩,.slice none 0 0] 45)).cell? ⟨b,2,none⟩=some (.slice r.A S.length r.c):=(World.cell?_alloc_lt _ _ _ hbd).trans z0e
 refine wpAnyH_ready (rs:=[4,6]) (by kernel_rfl) (by simp) ?_
 refine AllReadyH.cons (o:=⟨_,_,_,_,_,_⟩) rfl (fun K hK=>?_) (AllReadyH.cons (o:=⟨_,_,_,_,_,_⟩) rfl (fun K hK=>?_) AllReadyH.nil)
 ·go_simp
  refine hK.out _ _ (HS.out) (fun hHeld=>?_)
  clear hK K
  try go_frame
  refine rdy 6 (fun K hK=>?_)
  go_simp
  refine hK.out _ _ (HS2.out) (fun hHeld=>?_)
  clear hK K
  try go_frame
  refine rdy 7 (fun K hK=>?_)
  refine zFK (.tmp 20) (.tmp 22) 23 rfl B 45 (.agg #[.int .i64 0,.int .i64 0,.string ByteArray.empty,.slice none 0 0]) 4 56 Tryz.underlying23 zDg rfl (by decide) _ S.length _ (cellsS (⟨ax,te,nm,[]⟩,none,0)) rfl H2.out hzB _ rfl rfl (zAj _) (zDG _) (by omega) (by decide) ?_
  intro a4 c4 w4 hown4 hb4 hz4 hg4;have hz4':W1.heap.size<w4.heap.size:=hz4
  have HS4:Hid (BoxS w4 w.heap.size ⟨ax,te,nm,[]⟩):=BoxS.keep HS2.out (fun j=>World.grownBy.cell_far hg4 ⟨w.heap.size,j,none⟩ (by show w.heap.size<_;simp;omega) (fun e=>hown2 _ e.symm rfl))
  have HB4:Hid (QAt w4 b { r with n:=S.length }):=by
   have h0:QAt (W1.drew.alloc (.cells #[.int .i64 ax,.int .i64 te,.string ⟨nm.toArray⟩,.slice none 0 0] 45)) b { r with n:=S.length }:=QAt.below (w:=W1.drew) HB1.out ((Below.refl _ _).alloc (Nat.le_refl _) _)
   exact (hg4.block b h0.lt (fun e=>hownb e.symm)).trans h0
  have k0:=HB4.out.all.2.2.1
  have kf0:=HB4.out.froz 2
  refine hK.out _ _ (HS4.out) (fun hHeld=>?_)
  clear hK K
  try go_frame
  refine tkv 8 (h:=tkv 9 (h:=?_))
  refine rdy 10 (fun K hK=>?_)
  go_simp
  have HS5:Hid (BoxS (w4.setCell ⟨b,2,none⟩ (.slice a4 (S.length+1) c4)) w.heap.size ⟨ax,te,nm,[]⟩):=BoxS.keep HS4.out (fun j=>World.grownBy.cell_far (Lib.grownBy_setCell w4 b 2 _) ⟨w.heap.size,j,none⟩ (by show w.heap.size<_;omega) (fun e=>by injection e with e;have e':w.heap.size=b:=e;omega))
  refine hK.out _ _ (HS5.out) (fun hHeld=>?_)
  clear hK K
  try go_frame
  refine wpAnyH_done (by kernel_rfl) ?_ _
  clear hHeld
  go_wp2_with fail
  go_ret;have hfin:StepsOwn w4 B a4 c4 (S++[(⟨ax,te,nm,[]⟩,none,0)]):=by
   unfold StepsOwn;rw [List.length_append,List.flatMap_append]
   simpa using hown4
  have halloc:∀ {e:TypeId} {size:Nat} {v:Value} {n:Nat} {xs:List Value},W1.ownsRow B e size v n xs→e≠45→w4.ownsRow B e size v n xs:=fun hr he =>
   zBo (World.ownsRow.alloc (w:=W1.drew) hr _) (World.ownsRow.alloc (w:=W1.drew) H2.out _) he hg4
  have hgb:=Lib.grownBy_setCell w4 b 2 (.slice a4 (S.length+1) c4)
  refine ⟨(((hbW.mono hBw).drew).trans hb4).setCell hB _,.inr ⟨H20.out,rfl,a4,c4,HB4.out.row a4 (S.length+1) c4,hfin.grown HB4.out hgb,?_⟩⟩
  have hsp:SPreds w4 B (S++[(⟨ax,te,nm,[]⟩,none,0)]):=by
   intro x hx;rcases List.mem_append.1 hx with hx | hx
   ·exact halloc (H3.out x hx) (by decide)
   ·simp at hx;subst hx
    unfold PredsOwn;exact World.ownsRow_nil _ _ _ _
  exact hsp.grown HB4.out hgb
 ·go_simp
  refine hK.out _ _ (HS2.out) (fun hHeld=>?_)
  clear hK K
  try go_frame
  refine rdy 4 (fun K hK=>?_)
  go_simp
  refine hK.out _ _ (HS2.out) (fun hHeld=>?_)
  clear hK K
  try go_frame
  refine rdy 7 (fun K hK=>?_)
  refine zFK (.tmp 20) (.tmp 22) 23 rfl B 45 (.agg #[.int .i64 0,.int .i64 0,.string ByteArray.empty,.slice none 0 0]) 4 56 Tryz.underlying23 zDg rfl (by decide) _ S.length _ (cellsS (⟨ax,te,nm,[]⟩,none,0)) rfl H2.out hzB _ rfl rfl (zAj _) (zDG _) (by omega) (by decide) ?_
  intro a4 c4 w4 hown4 hb4 hz4 hg4;have hz4':W1.heap.size<w4.heap.size:=hz4
  have HS4:Hid (BoxS w4 w.heap.size ⟨ax,te,nm,[]⟩):=BoxS.keep HS2.out (fun j=>World.grownBy.cell_far hg4 ⟨w.heap.size,j,none⟩ (by show w.heap.size<_;simp;omega) (fun e=>hown2 _ e.symm rfl))
  have HB4:Hid (QAt w4 b { r with n:=S.length }):=by
   have h0:QAt (W1.drew.alloc (.cells #[.int .i64 ax,.int .i64 te,.string ⟨nm.toArray⟩,.slice none 0 0] 45)) b { r with n:=S.length }:=QAt.below (w:=W1.drew) HB1.out ((Below.refl _ _).alloc (Nat.le_refl _) _)
   exact (hg4.block b h0.lt (fun e=>hownb e.symm)).trans h0
  have k0:=HB4.out.all.2.2.1
  have kf0:=HB4.out.froz 2
  refine hK.out _ _ (HS4.out) (fun hHeld=>?_)
  clear hK K
  try go_frame
  refine tkv 8 (h:=tkv 9 (h:=?_))
  refine rdy 10 (fun K hK=>?_)
  go_simp
  have HS5:Hid (BoxS (w4.setCell ⟨b,2,none⟩ (.slice a4 (S.length+1) c4)) w.heap.size ⟨ax,te,nm,[]⟩):=BoxS.keep HS4.out (fun j=>World.grownBy.cell_far (Lib.grownBy_setCell w4 b 2 _) ⟨w.heap.size,j,none⟩ (by show w.heap.size<_;omega) (fun e=>by injection e with e;have e':w.heap.size=b:=e;omega))
  refine hK.out _ _ (HS5.out) (fun hHeld=>?_)
  clear hK K
  try go_frame
  refine wpAnyH_done (by kernel_rfl) ?_ _
  clear hHeld
  go_wp2_with fail
  go_ret;have hfin:StepsOwn w4 B a4 c4 (S++[(⟨ax,te,nm,[]⟩,none,0)]):=by
   unfold StepsOwn;rw [List.length_append,List.flatMap_append]
   simpa using hown4
  have halloc:∀ {e:TypeId} {size:Nat} {v:Value} {n:Nat} {xs:List Value},W1.ownsRow B e size v n xs→e≠45→w4.ownsRow B e size v n xs:=fun hr he =>
   zBo (World.ownsRow.alloc (w:=W1.drew) hr _) (World.ownsRow.alloc (w:=W1.drew) H2.out _) he hg4
  have hgb:=Lib.grownBy_setCell w4 b 2 (.slice a4 (S.length+1) c4)
  refine ⟨(((hbW.mono hBw).drew).trans hb4).setCell hB _,.inr ⟨H20.out,rfl,a4,c4,HB4.out.row a4 (S.length+1) c4,hfin.grown HB4.out hgb,?_⟩⟩
  have hsp:SPreds w4 B (S++[(⟨ax,te,nm,[]⟩,none,0)]):=by
   intro x hx;rcases List.mem_append.1 hx with hx | hx
   ·exact halloc (H3.out x hx) (by decide)
   ·simp at hx;subst hx
    unfold PredsOwn;exact World.ownsRow_nil _ _ _ _
  exact hsp.grown HB4.out hgb
theorem zG2 (b B:Nat) (r:QRdr) (w:World) (h:QAt w b r) (hB:B≤b) (hBw:B≤w.heap.size) (S:List QSlot) (hn:r.n=S.length) (hS:StepsOwn w B r.A r.c S) (hP:SPreds w B S) (s:StepD) (hsp:s.preds=[]) (at_:Int) :
  Calls Tryz.prog 100 #[.pointer (some ⟨b,0,none⟩),.agg (stepC s),.int .i64 at_] w (AddPost w B b r S s at_):=by
 rcases Nat.lt_or_ge S.length 20 with h20 | h20
 ·obtain ⟨ax,te,nm,ps⟩:=s
  have hsp':ps=[]:=hsp
  subst hsp';exact zLr b B r w h hB hBw S hn hS hP ax te nm at_ h20
 ·exact zMX b B r w h hB hBw S hn s at_ h20
end
end Go.Proofs.YtcombcoilpmnkaaGreat

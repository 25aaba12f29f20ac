/-
  Texts of this claim, joined (by a program of the claim's author): GRRs, GRes, OpenG, Open, GOpen, GOpenI.
-/
import Derived.Test.YtmkgajdgnmolkaaGreatR1
import Derived.Test.YtmkgajdgnmolkaaGreatR15
import Derived.Test.YtmkgajdgnmolkaaGreatR11
import Derived.Test.YtmkgajdgnmolkaaGreatR8
import Derived.Test.YtmkgajdgnmolkaaGreatR14
import Derived.Test.YtmkgajdgnmolkaaGreatRows
import Derived.Test.YtmkgajdgnmolkaaGreatR2
import Derived.Deep.Slices
import Derived.Deep.Fields
import Derived.ChangeSame
import Derived.Carry
import Derived.ProofKit
import Derived.Test.YtmkgajdgnmolkaaGreatR4
import Derived.Test.YtmkgajdgnmolkaaGreatR9
namespace Go.Proofs.YtmkgajdgnmolkaaGreat
set_option maxRecDepth 100000
set_option maxHeartbeats 16000000
section
open Go.RowKit Go.Shelf
variable {X : Nat → Prop}
theorem zeroT_one : zeroT.all (·.oneCell') = true := by simp [zeroT, Value.oneCell']
theorem step_append {P : Program} {ops : Array Oper} {o : Oper} {a : Act} {w : World} {K : Act → World → Prop} {Q : Exit → Act → World → Prop} {E : Prop}
  (hg : o.guard = none) (s x : Operand) (t : TypeId) (hop : o.op = Op.call { callee := Callee.builtin Builtin.append, args := #[s, x], argTypes := #[t, t] })
  (v u : Value) (hs : a.eval s = v) (hx : a.eval x = u) {v' : Value} {w' : World} (hr : (Builtin.append_ #[t, t] o.type #[v, u]).run P w = .ok v' w') (hK : K (a.put o.dst v') w') :
  if Region.wanted o (yielded ops a.tmps) = true then Oper.wp P o a w K Q else E := by
 have hw : Region.wanted o (yielded ops a.tmps) = true := by simp [Region.wanted, hg]
 rw [if_pos hw]
 unfold Oper.wp execOp
 simp only [hop, resolve, invoke, builtin, Sem.run_bind, Sem.run_pure, Result.andThen_ok, List.map_toArray, List.map_cons, List.map_nil, hs, hx, hr]
 exact hK
theorem rest_take {l : List ItemD} {ids : List Int} {k : Nat} {x : Int} {z : ItemD} (hx : ids[k]? = some x) (hz : l[k]? = some z) : (restL l ids).take (k + 1) = (restL l ids).take k ++ [⟨x, z⟩] := by
 have h : (restL l ids)[k]? = some ⟨x, z⟩ := by
  unfold restL
  have : (l.zip ids)[k]? = some (z, x) := by rw [List.getElem?_zip_eq_some]; exact ⟨hz, hx⟩
  rw [List.getElem?_map, this]; rfl
 rw [List.take_add_one, h]; rfl
def RRestP (X : Nat → Prop) (w : World) (l : List ItemD) (ids : List Int) (next : Int) (er : Ending) (w' : World) : Prop :=
 (restE l ids next ≠ 0 ∧ er = .returned (.tuple #[.agg zeroT, .int .i64 (restE l ids next)]) ∧ Below w.heap.size w w') ∨
 (restE l ids next = 0 ∧ ∃ A c, er = .returned (.tuple #[.agg (treeV A (restL l ids).length c next), .int .i64 0]) ∧ TreeR X w' A c (restL l ids) ∧ Below w.heap.size w w')
theorem RRestore_any (l : List ItemD) (A : Option Addr) (c N : Nat) (ids : List Int) (Av : Option Addr) (cv : Nat) (next : Int) (w : World) (hi : ItemsAt w N A l) (hN : N ≤ w.heap.size) (hNX : ∀ b, b < N → X b) (hX : ∀ b, w.heap.size ≤ b → X b) (hs : SmallItems l) (hd : IntsAt w w.heap.size Av ids) (hll : l.length ≤ 100000) (hli : ids.length ≤ 100000) :
  Calls Tryz.prog 35 #[.slice A l.length c, .slice Av ids.length cv, .int .i64 next] w (RRestP X w l ids next) := by
 have HI := Lib.hid hi
 have HS := Lib.hid hs
 have HD := Lib.hid hd
 have HNX := Lib.hid hNX
 have HXN := Lib.hid hX
 have l0 : (0 : Int) ≤ (l.length : Int) := by omega
 have l1 : (l.length : Int) ≤ 100000 := by omega
 have i0 : (0 : Int) ≤ (ids.length : Int) := by omega
 have i1 : (ids.length : Int) ≤ 100000 := by omega
 obtain ⟨W1, hW1⟩ : ∃ W1, Hid (W1 = w.alloc (.cells #[.slice none 0 0, .int .i64 0] 29)) := ⟨_, rfl⟩
 have hb1 : Below w.heap.size w W1 := by rw [hW1.out]; exact (Below.refl _ w).alloc (Nat.le_refl _) _
 have HY1 : Hid (W1.heap[w.heap.size]? = some (.cells zeroT 29 (0, 0))) := by show _ = _; rw [hW1.out]; exact heap_alloc_new w _
 have hz1 : W1.heap.size = w.heap.size + 1 := by rw [hW1.out]; simp
 have HB1 := Lib.hid hb1
 have HZ1 := Lib.hid hz1
 clear hi hs hd hNX hX hb1 hz1
 by_cases hc1 : ids.length ≠ l.length
 ·have t1 : ((ids.length : Int) != (l.length : Int)) = true := by
   have : (ids.length : Int) ≠ (l.length : Int) := by omega
   simpa using this
  go_enter Tryz.func35, Tryz.ntmps35
  go_upto_region 2 with (fail)
  rw [← hW1.out]
  have HE : Hid (restE l ids next = 1) := by
   show _ = _
   unfold restE
   rw [if_pos (.inl hc1)]
  go_wp2_with (refine wpList_store_row rfl 29 (.tmp 6) (.tmp 26) rfl w.heap.size zeroT rfl rfl 29 zeroT HY1.out (by kernel_rfl) rfl zeroT_one ?_)
  try simp only [Exit.inBlock, Exit.then]
  refine bodyPost_ret (results_cellb Tryz.results35 _ _ w.heap.size 29 zeroT (0, 0) _ rfl (setRow_heap _ _ _ _ _ _ HY1.out) Tryz.underlying29 rfl (by kernel_rfl)) rfl ?_
  have hb' := HB1.out
  exact .inl ⟨by rw [HE.out]; decide, by rw [HE.out]; rfl, hb'.os, hb'.tape, hb'.output, by rw [setRow_size]; exact hb'.size, fun b hb => (setRow_other _ _ _ _ (by omega)).trans (hb'.block b hb)⟩
 have t1 : ((ids.length : Int) != (l.length : Int)) = false := by
  have : (ids.length : Int) = (l.length : Int) := by omega
  simpa using this
 by_cases hc2 : next < 1
 ·go_enter Tryz.func35, Tryz.ntmps35
  go_upto_region 2 with (fail)
  rw [← hW1.out]
  have HE : Hid (restE l ids next = 1) := by
   show _ = _
   unfold restE
   rw [if_pos (.inr (.inl hc2))]
  go_wp2_with (refine wpList_store_row rfl 29 (.tmp 6) (.tmp 26) rfl w.heap.size zeroT rfl rfl 29 zeroT HY1.out (by kernel_rfl) rfl zeroT_one ?_)
  try simp only [Exit.inBlock, Exit.then]
  refine bodyPost_ret (results_cellb Tryz.results35 _ _ w.heap.size 29 zeroT (0, 0) _ rfl (setRow_heap _ _ _ _ _ _ HY1.out) Tryz.underlying29 rfl (by kernel_rfl)) rfl ?_
  have hb' := HB1.out
  exact .inl ⟨by rw [HE.out]; decide, by rw [HE.out]; rfl, hb'.os, hb'.tape, hb'.output, by rw [setRow_size]; exact hb'.size, fun b hb => (setRow_other _ _ _ _ (by omega)).trans (hb'.block b hb)⟩
 by_cases hc3 : 2147483647 < next
 ·go_enter Tryz.func35, Tryz.ntmps35
  go_upto_region 2 with (fail)
  rw [← hW1.out]
  have HE : Hid (restE l ids next = 1) := by
   show _ = _
   unfold restE
   rw [if_pos (.inr (.inr hc3))]
  go_wp2_with (refine wpList_store_row rfl 29 (.tmp 6) (.tmp 26) rfl w.heap.size zeroT rfl rfl 29 zeroT HY1.out (by kernel_rfl) rfl zeroT_one ?_)
  try simp only [Exit.inBlock, Exit.then]
  refine bodyPost_ret (results_cellb Tryz.results35 _ _ w.heap.size 29 zeroT (0, 0) _ rfl (setRow_heap _ _ _ _ _ _ HY1.out) Tryz.underlying29 rfl (by kernel_rfl)) rfl ?_
  have hb' := HB1.out
  exact .inl ⟨by rw [HE.out]; decide, by rw [HE.out]; rfl, hb'.os, hb'.tape, hb'.output, by rw [setRow_size]; exact hb'.size, fun b hb => (setRow_other _ _ _ _ (by omega)).trans (hb'.block b hb)⟩
 have HLN : Hid (ids.length = l.length) := by
  show ids.length = l.length
  exact Decidable.not_not.1 hc1
 have hres : restE l ids next = if ¬ OkIds ids next then 1 else if l = [] then 0 else (checkL l).2 := by
  unfold restE
  rw [if_neg (by omega)]
 have HRES := Lib.hid hres
 clear hc1 hres
 go_enter Tryz.func35, Tryz.ntmps35
 go_upto_region 3 with (fail)
 rw [← hW1.out]
 clear t1
 obtain ⟨W2, hW2⟩ : ∃ W2, Hid (W2 = W1.alloc (.cells #[.slice none 0 0, .int .i64 next] 29)) := ⟨_, rfl⟩
 have hb2 : Below W1.heap.size W1 W2 := by rw [hW2.out]; exact (Below.refl _ W1).alloc (Nat.le_refl _) _
 obtain ⟨tb, htb⟩ : ∃ tb, Hid (W1.heap.size = tb) := ⟨_, rfl⟩
 have HX2 : Hid (W2.heap[tb]? = some (.cells (treeV none 0 0 next) 29 (0, 0))) := by show _ = _; rw [hW2.out, ← htb.out]; exact heap_alloc_new W1 _
 have HY2 : Hid (W2.heap[w.heap.size]? = some (.cells zeroT 29 (0, 0))) := (hb2.block _ (by have := HZ1.out; omega)).trans HY1.out
 have HB2 : Hid (Below w.heap.size w W2) := HB1.out.trans (hb2.mono HB1.out.size)
 have HTB : Hid (tb = w.heap.size + 1) := by show _ = _; rw [← htb.out, HZ1.out]
 have HZ2 : Hid (tb < W2.heap.size) := by show _ < _; rw [hW2.out, ← htb.out]; simp
 clear hb2
 go_upto_region 4 with (fail)
 rw [← hW2.out, htb.out]
 go_wp2_with fail
 go_loopw [9] (fun i wr => ∃ (k : Nat) (A2 : Option Addr) (c2 : Nat) (S : List SlotR), i = .int .i64 (k : Int) ∧ k ≤ ids.length ∧ Hid (OkIds (ids.take k) next) ∧ Hid (S.length = k) ∧ Hid (S.map (·.1) = (restL l ids).take k) ∧ Hid (RowsOwn wr (tb + 1) A2 c2 S) ∧ Hid (AttrsOf X w N S) ∧
  Hid (wr.heap[tb]? = some (.cells (treeV A2 k c2 next) 29 (0, 0))) ∧ Hid (wr.heap[w.heap.size]? = some (.cells zeroT 29 (0, 0))) ∧ Hid (Below w.heap.size w wr) ∧ Hid (tb < wr.heap.size)) (fun i _ => ids.length - (intOf i).toNat)
 case atStart => exact ⟨0, none, 0, [], rfl, Nat.zero_le _, ⟨by simp, fun x hx => by simp at hx⟩, rfl, rfl, RowsOwn.nil _ _, fun s hs => (by cases hs), HX2.out, HY2.out, HB2.out, HZ2.out⟩
 case round =>
  obtain ⟨k, A2, c2, S, rfl, hk, hok, hSl, hS, hown, hat, hx, hy, hbl, hzt⟩ := hrel
  have k0 : (0 : Int) ≤ (k : Int) := by omega
  by_cases hkl : k < ids.length
  ·have k1 : (k : Int) < (ids.length : Int) := by omega
   have k1' : (k : Int) < (l.length : Int) := by have := HLN.out; omega
   obtain ⟨x, hxk⟩ : ∃ x, Hid (ids[k]? = some x) := ⟨ids[k], List.getElem?_eq_getElem _⟩
   obtain ⟨z, hzk⟩ : ∃ z, Hid (l[k]? = some z) := ⟨l[k]'(by have := HLN.out; omega), List.getElem?_eq_getElem _⟩
   obtain ⟨va, hva, _, hcl⟩ := (HD.out.below hbl.out) (by omega)
   subst hva
   have cid := hcl k x hxk.out
   clear hcl
   by_cases hx1 : x < 1
   ·have HE : Hid (restE l ids next = 1) := by
     show _ = _
     unfold restE
     rw [if_neg (by have := HLN.out; omega), if_pos (ok_no hxk.out (.inl hx1))]
    go_wp2_with (refine wpList_store_row rfl 29 (.tmp 6) (.tmp 48) rfl w.heap.size zeroT rfl rfl 29 zeroT hy.out (by kernel_rfl) rfl zeroT_one ?_)
    try simp only [Exit.inBlock, Exit.then]
    refine bodyPost_ret (results_cellb Tryz.results35 _ _ w.heap.size 29 zeroT (0, 0) _ rfl (setRow_heap _ _ _ _ _ _ hy.out) Tryz.underlying29 rfl (by kernel_rfl)) rfl ?_
    have hb' := hbl.out
    exact .inl ⟨by rw [HE.out]; decide, by rw [HE.out]; rfl, hb'.os, hb'.tape, hb'.output, by rw [setRow_size]; exact hb'.size, fun b hb => (setRow_other _ _ _ _ (by omega)).trans (hb'.block b hb)⟩
   by_cases hx2 : next ≤ x
   ·have HE : Hid (restE l ids next = 1) := by
     show _ = _
     unfold restE
     rw [if_neg (by have := HLN.out; omega), if_pos (ok_no hxk.out (.inr (.inl hx2)))]
    go_wp2_with (refine wpList_store_row rfl 29 (.tmp 6) (.tmp 48) rfl w.heap.size zeroT rfl rfl 29 zeroT hy.out (by kernel_rfl) rfl zeroT_one ?_)
    try simp only [Exit.inBlock, Exit.then]
    refine bodyPost_ret (results_cellb Tryz.results35 _ _ w.heap.size 29 zeroT (0, 0) _ rfl (setRow_heap _ _ _ _ _ _ hy.out) Tryz.underlying29 rfl (by kernel_rfl)) rfl ?_
    have hb' := hbl.out
    exact .inl ⟨by rw [HE.out]; decide, by rw [HE.out]; rfl, hb'.os, hb'.tape, hb'.output, by rw [setRow_size]; exact hb'.size, fun b hb => (setRow_other _ _ _ _ (by omega)).trans (hb'.block b hb)⟩
   go_wp2_with fail
   obtain ⟨wo, hwo⟩ : ∃ wo : World, wo = wr := ⟨_, rfl⟩
   subst hwo
   clear cid
   go_loopw [10] (fun i w2 => ∃ j : Nat, i = .int .i64 (j : Int) ∧ j ≤ k ∧ Hid (∀ j', j' < j → ids[j']? ≠ some x) ∧ Hid (Below wo.heap.size wo w2)) (fun i _ => k - (intOf i).toNat)
   case atStart => exact ⟨0, rfl, Nat.zero_le _, fun j' h => by omega, Below.refl _ _⟩
   case round =>
    obtain ⟨j, rfl, hj, hnj, hbw⟩ := hrel
    have j0 : (0 : Int) ≤ (j : Int) := by omega
    have HBW : Hid (Below w.heap.size w wr) := hbl.out.trans (hbw.out.mono hbl.out.size)
    obtain ⟨va', hva, _, hcl⟩ := (HD.out.below HBW.out) (by omega)
    injection hva with hva
    subst hva
    have cid := hcl k x hxk.out
    by_cases hjk : j < k
    ·have j1 : (j : Int) < (k : Int) := by omega
     have j2 : (j : Int) < (ids.length : Int) := by omega
     obtain ⟨y, hyj⟩ : ∃ y, Hid (ids[j]? = some y) := ⟨ids[j]'(by omega), List.getElem?_eq_getElem _⟩
     have cjd := hcl j y hyj.out
     clear hcl
     by_cases hyx : y = x
     ·have hyx' : (y == x) = true := by simpa using hyx
      have HMEM : Hid (x ∈ ids.take k) := by
       show _ ∈ _
       rw [← hyx]
       refine List.mem_of_getElem? (i := j) ?_
       rw [List.getElem?_take, if_pos hjk]
       exact hyj.out
      clear hyx
      go_wp2_with fail
      go_quiet (fail)
      obtain ⟨W3, hW3⟩ : ∃ W3, Hid (wr.drewN nq = W3) := ⟨_, rfl⟩
      rw [hW3.out]
      have hb3 : Below wr.heap.size wr W3 := by rw [← hW3.out]; exact ⟨rfl, rfl, rfl, Nat.le_refl _, fun _ _ => rfl⟩
      have HY3 : Hid (W3.heap[w.heap.size]? = some (.cells zeroT 29 (0, 0))) := (hb3.block _ (by have := hzt.out; have := HTB.out; have := hbw.out.size; omega)).trans ((hbw.out.block _ (by have := hzt.out; have := HTB.out; omega)).trans hy.out)
      have HB3 : Hid (Below w.heap.size w W3) := HBW.out.trans (hb3.mono HBW.out.size)
      clear hb3 cid cjd
      have HE : Hid (restE l ids next = 1) := by
       show _ = _
       unfold restE
       rw [if_neg (by have := HLN.out; omega), if_pos (ok_no hxk.out (.inr (.inr HMEM.out)))]
      go_wp2_with (refine wpList_store_row rfl 29 (.tmp 6) (.tmp 63) rfl w.heap.size zeroT rfl rfl 29 zeroT HY3.out (by kernel_rfl) rfl zeroT_one ?_)
      try simp only [Exit.inBlock, Exit.then]
      refine bodyPost_ret (results_cellb Tryz.results35 _ _ w.heap.size 29 zeroT (0, 0) _ rfl (setRow_heap _ _ _ _ _ _ HY3.out) Tryz.underlying29 rfl (by kernel_rfl)) rfl ?_
      have hb' := HB3.out
      exact .inl ⟨by rw [HE.out]; decide, by rw [HE.out]; rfl, hb'.os, hb'.tape, hb'.output, by rw [setRow_size]; exact hb'.size, fun b hb => (setRow_other _ _ _ _ (by omega)).trans (hb'.block b hb)⟩
     ·have hyx' : (y == x) = false := by simpa using hyx
      have hnj' : Hid (∀ j', j' < j + 1 → ids[j']? ≠ some x) := fun j' h' => by
       by_cases e : j' = j
       ·subst e
        rw [hyj.out]
        intro h
        injection h with h
        exact hyx h
       ·exact hnj.out j' (by omega)
      clear hyx
      go_wp2_with fail
      go_quiet (fail)
      obtain ⟨W3, hW3⟩ : ∃ W3, Hid (wr.drewN nq = W3) := ⟨_, rfl⟩
      rw [hW3.out]
      have hb3 : Below wr.heap.size wr W3 := by rw [← hW3.out]; exact ⟨rfl, rfl, rfl, Nat.le_refl _, fun _ _ => rfl⟩
      have HB3 : Hid (Below wo.heap.size wo W3) := hbw.out.trans (hb3.mono hbw.out.size)
      clear hb3 cid cjd
      go_wp2_with fail
      go_roundw
      case rel => exact ⟨j + 1, by go_num, by omega, hnj'.out, HB3.out⟩
      case measure => simp [intOf]; omega
    ·have j1 : ¬ (j : Int) < (k : Int) := by omega
     have hxn : x ∉ ids.take k := fun hm => by
      obtain ⟨j', hj'⟩ := List.mem_iff_getElem?.1 hm
      rw [List.getElem?_take] at hj'
      split at hj'
      ·exact hnj.out j' (by omega) hj'
      ·cases hj'
     have HOKN := Lib.hid (ok_take hxk.out hok.out (by omega) (by omega) hxn)
     have HSN := rest_take hxk.out hzk.out
     have HSNN := Lib.hid HSN
     obtain ⟨ad, hA, _⟩ := (HI.out.below (HBW.out.mono hN)) (by have := HLN.out; omega)
     have hIw := HI.out.below (HBW.out.mono hN)
     have hI0 := HI.out
     subst hA
     obtain ⟨_, A', c', hat', hac, q0, q1, q2, q3, q4⟩ := hIw.item hzk.out
     obtain ⟨hadN, B', c'', hatw, hacw, g0, g1, g2, g3, g4⟩ := hI0.item hzk.out
     have hAB : A' = B' ∧ c' = c'' := by
      have hcell := HBW.out.cell (p := ⟨(ad.add (k * 5)).block, (ad.add (k * 5)).off + 4, none⟩) (by show (ad.add _).block < _; rw [block_of_add]; omega)
      rw [q4, g4] at hcell
      injection hcell with hcell
      injection hcell with e1 _ e3
      exact ⟨e1, e3⟩
     obtain ⟨rfl, rfl⟩ := hAB
     have HATW := Lib.hid (And.intro (AttrsX.of hatw HNX.out) hacw)
     unfold strV at q2 q3
     have hxw := (hbw.out.block _ hzt.out).trans hx.out
     have HXW := Lib.hid hxw
     have HZT : Hid (tb < wr.heap.size) := Nat.lt_of_lt_of_le hzt.out hbw.out.size
     have HYW : Hid (wr.heap[w.heap.size]? = some (.cells zeroT 29 (0, 0))) := (hbw.out.block _ (by have := hzt.out; have := HTB.out; omega)).trans hy.out
     have HOW : Hid (RowsOwn wr (tb + 1) A2 c2 S) := hown.out.keepB hbw.out
     unfold strV at g2 g3
     have hlt : (ad.add (k * 5)).block < w.heap.size := by rw [block_of_add]; omega
     have hvc : ∀ W : World, Below w.heap.size w W → W.cell? (va.add k) = some (.int .i64 x) := fun W hb => by
      obtain ⟨va2, e2, _, h2⟩ := (HD.out.below hb) (by omega)
      injection e2 with e2
      subst e2
      exact h2 k x hxk.out
     have HSW : Hid (∀ W : World, Below w.heap.size w W → W.cell? (va.add k) = some (.int .i64 x) ∧ W.cell? (ad.add (k * 5)) = some (.int .i64 z.level) ∧ W.cell? ⟨(ad.add (k * 5)).block, (ad.add (k * 5)).off + 1, none⟩ = some (.int .i64 z.kind) ∧ W.cell? ⟨(ad.add (k * 5)).block, (ad.add (k * 5)).off + 2, none⟩ = some (.string ⟨z.name.toArray⟩) ∧ W.cell? ⟨(ad.add (k * 5)).block, (ad.add (k * 5)).off + 3, none⟩ = some (.string ⟨z.text.toArray⟩) ∧ W.cell? ⟨(ad.add (k * 5)).block, (ad.add (k * 5)).off + 4, none⟩ = some (.slice A' z.attrs.length c')) := fun W hb => ⟨hvc W hb, (hb.cell hlt).trans g0, (hb.cell (by exact hlt)).trans g1, (hb.cell (by exact hlt)).trans g2, (hb.cell (by exact hlt)).trans g3, (hb.cell (by exact hlt)).trans g4⟩
     clear hcl q0 q1 q2 q3 q4 g0 g1 g2 g3 g4 hat' hac hatw hacw hIw hI0 hxw hvc hlt HSN hxn cid
     go_upto_region 14 with (fail)
     have hbd : Below wr.heap.size wr wr.drew := ⟨rfl, rfl, rfl, Nat.le_refl _, fun _ _ => rfl⟩
     have HBD : Hid (Below w.heap.size w wr.drew) := HBW.out.trans (hbd.mono HBW.out.size)
     have hS := HSW.out wr.drew HBD.out
     refine wp_region_held_drew (S := fun W => W.cell? (va.add k) = some (.int .i64 x) ∧ W.cell? (ad.add (k * 5)) = some (.int .i64 z.level) ∧ W.cell? ⟨(ad.add (k * 5)).block, (ad.add (k * 5)).off + 1, none⟩ = some (.int .i64 z.kind) ∧ W.cell? ⟨(ad.add (k * 5)).block, (ad.add (k * 5)).off + 2, none⟩ = some (.string ⟨z.name.toArray⟩) ∧ W.cell? ⟨(ad.add (k * 5)).block, (ad.add (k * 5)).off + 3, none⟩ = some (.string ⟨z.text.toArray⟩) ∧ W.cell? ⟨(ad.add (k * 5)).block, (ad.add (k * 5)).off + 4, none⟩ = some (.slice A' z.attrs.length c')) (by kernel_rfl) hS (fun hHeld => ?_)
     clear hS
     refine tkv 0 (h := ?_)
     refine tkv 2 (h := tkv 3 (h := tkv 4 (h := tkv 5 (h := tkv 6 (h := tkv 7 (h := ?_))))))
     refine tkv 8 (h := tkv 9 (h := tkv 10 (h := ?_)))
     obtain ⟨w3, hw3⟩ : ∃ w3, Hid (wr.drew = w3) := ⟨_, rfl⟩
     rw [hw3.out] at hbd HBD ⊢
     have HX3 : Hid (w3.heap[tb]? = some (.cells (treeV A2 k c2 next) 29 (0, 0))) := (hbd.block _ HZT.out).trans HXW.out
     have HY3 : Hid (w3.heap[w.heap.size]? = some (.cells zeroT 29 (0, 0))) := (hbd.block _ (by have := HZT.out; have := HTB.out; omega)).trans HYW.out
     have HO3 : Hid (RowsOwn w3 (tb + 1) A2 c2 S) := HOW.out.keepB hbd
     have HZ3 : Hid (tb < w3.heap.size) := Nat.lt_of_lt_of_le HZT.out hbd.size
     have x0 : w3.cell? ⟨tb, 0, none⟩ = some (.slice A2 k c2) := cell_row HX3.out 0 _ rfl
     clear hbd
     refine wpAnyH_ready (rs := [1, 11]) (by kernel_rfl) (by simp) ?_
     refine AllReadyH.cons (o := ⟨_, _, _, _, _, _⟩) rfl (fun K hK => ?_) (AllReadyH.cons (o := ⟨_, _, _, _, _, _⟩) rfl (fun K hK => ?_) AllReadyH.nil)
     ·go_simp
      refine hK.out _ _ (HSW.out w3 HBD.out) (fun hHeld => ?_)
      clear hK K
      try go_frame
      clear x0
      refine rdy 11 (fun K hK => ?_)
      go_simp
      obtain ⟨w4, hw4⟩ : ∃ w4, Hid (w4 = w3.alloc (.cells #[.int .i64 x, .int .i64 z.level, .int .i64 z.kind, .string ⟨z.name.toArray⟩, .string ⟨z.text.toArray⟩, .slice A' z.attrs.length c'] 97)) := ⟨_, rfl⟩
      have hb4 : Below w3.heap.size w3 w4 := by rw [hw4.out]; exact (Below.refl _ w3).alloc (Nat.le_refl _) _
      have hx4 : w4.heap[w3.heap.size]? = some (.cells #[.int .i64 x, .int .i64 z.level, .int .i64 z.kind, .string ⟨z.name.toArray⟩, .string ⟨z.text.toArray⟩, .slice A' z.attrs.length c'] 97 (0, 0)) := by rw [hw4.out]; exact heap_alloc_new w3 _
      have HX4 : Hid (w4.heap[tb]? = some (.cells (treeV A2 k c2 next) 29 (0, 0))) := (hb4.block _ HZ3.out).trans HX3.out
      have HY4 : Hid (w4.heap[w.heap.size]? = some (.cells zeroT 29 (0, 0))) := (hb4.block _ (by have := HZ3.out; have := HTB.out; omega)).trans HY3.out
      have HB4 : Hid (Below w.heap.size w w4) := HBD.out.trans (hb4.mono HBD.out.size)
      have HO4 : Hid (RowsOwn w4 (tb + 1) A2 c2 S) := HO3.out.keepB hb4
      have HZ4 : Hid (tb < w4.heap.size) := Nat.lt_of_lt_of_le HZ3.out hb4.size
      obtain ⟨s, hs⟩ : ∃ s : SlotR, Hid (s = (⟨x, z⟩, A', c')) := ⟨_, rfl⟩
      obtain ⟨pa, pc, w5, hr5, hrow5, hg5, hf5⟩ := run_append_rows (World.ownsRow.mono HO4.out (Nat.zero_le _)) [s] (by simp) ⟨w3.heap.size, 0, none⟩ 1 (fun j u hj => by
       rw [add_zero_block]
       refine cell_row hx4 j u ?_
       rw [hs.out] at hj
       match j, hj with
       | 0, hj => simpa [cellsR] using hj
       | 1, hj => simpa [cellsR] using hj
       | 2, hj => simpa [cellsR] using hj
       | 3, hj => simpa [cellsR, strV] using hj
       | 4, hj => simpa [cellsR, strV] using hj
       | 5, hj => simpa [cellsR] using hj
       | j + 6, hj => simp [cellsR] at hj) (by rw [hSl.out]; omega) (by simp)
      simp only [List.length_singleton] at hr5 hf5
      have hlow : ∀ b, (Value.slice A2 S.length c2).ownBlock = some b → tb + 1 ≤ b := fun b hb => (HO4.out.lt b hb).1
      have HB5 : Hid (Below w.heap.size w w5) := HB4.out.grown hg5 HB4.out.size (fun b hb => by have := hlow b hb; have := HTB.out; omega)
      have HX5 : Hid (w5.heap[tb]? = some (.cells (treeV A2 k c2 next) 29 (0, 0))) := (hg5.block tb HZ4.out (fun h => by have := hlow tb h.symm; omega)).trans HX4.out
      have HY5 : Hid (w5.heap[w.heap.size]? = some (.cells zeroT 29 (0, 0))) := (hg5.block _ (by have := HZ4.out; have := HTB.out; omega) (fun h => by have := hlow _ h.symm; have := HTB.out; omega)).trans HY4.out
      have HZ5 : Hid (tb < w5.heap.size) := Nat.lt_of_lt_of_le HZ4.out hg5.size
      have HO5 : Hid (RowsOwn w5 (tb + 1) pa pc (S ++ [s])) := by
       refine own_up hrow5 fun b hb => ?_
       rw [show (S ++ [s]).length = S.length + 1 by simp] at hb
       rcases hf5 b hb with h | h
       ·exact hlow b h
       ·have := HZ4.out; omega
      rw [hSl.out] at hr5
      have HSn : Hid ((S ++ [s]).map (·.1) = (restL l ids).take (k + 1)) := by
       show _ = _
       rw [List.map_append, hS.out, HSNN.out, hs.out]; rfl
      have HATn : Hid (AttrsOf X w N (S ++ [s])) := fun s' hs' => by
       rcases List.mem_append.1 hs' with h | h
       ·exact hat.out s' h
       ·rw [List.mem_singleton.1 h, hs.out]; exact HATW.out
      rw [← hw4.out]
      clear hb4 hx4 hrow5 hg5 hf5 hlow
      refine hK.out _ _ (HSW.out w4 HB4.out) (fun hHeld => ?_)
      clear hK K
      try go_frame
      refine rdy 12 (fun K hK => ?_)
      refine step_append rfl (.tmp 65) (.tmp 75) 27 rfl (.slice A2 k c2) (.slice (some ⟨w3.heap.size, 0, none⟩) 1 1) (by simp [Act.eval]) (by simp [Act.eval]) hr5 ?_
      refine hK.out _ _ (HSW.out w5 HB5.out) (fun hHeld => ?_)
      clear hK K
      try go_frame
      refine tkv 13 (h := ?_)
      have f0 := free_row HX5.out 0
      have o0 := cell_row HX5.out 0 _ rfl
      refine rdy 14 (fun K hK => ?_)
      go_simp
      obtain ⟨w6, hw6⟩ : ∃ w6, Hid (w5.setCell ⟨tb, 0, none⟩ (.slice pa (k + 1) pc) = w6) := ⟨_, rfl⟩
      have HX6 : Hid (w6.heap[tb]? = some (.cells (treeV pa (k + 1) pc next) 29 (0, 0))) := by show _ = _; rw [← hw6.out]; exact Lib.heap_setCell_same (i := 0) HX5.out _
      have hoth : ∀ b, b ≠ tb → w6.heap[b]? = w5.heap[b]? := fun b hb => by rw [← hw6.out]; exact Below.heap_setCell _ _ _ _ hb
      have HY6 : Hid (w6.heap[w.heap.size]? = some (.cells zeroT 29 (0, 0))) := (hoth _ (by have := HTB.out; omega)).trans HY5.out
      have HO6 : Hid (RowsOwn w6 (tb + 1) pa pc (S ++ [s])) := row_block HO5.out fun b hb => hoth b (by have := (HO5.out.lt b hb).1; omega)
      have HB6 : Hid (Below w.heap.size w w6) := by show Below _ _ _; rw [← hw6.out]; exact HB5.out.setCell (by show w.heap.size ≤ tb; have := HTB.out; omega) _
      have HZ6 : Hid (tb < w6.heap.size) := by show _ < _; rw [← hw6.out]; simpa using HZ5.out
      rw [hw6.out]
      clear f0 o0 hoth hr5
      refine hK.out _ _ (HSW.out w6 HB6.out) (fun hHeld => ?_)
      clear hK K
      try go_frame
      refine wpAnyH_done (by kernel_rfl) ?_ _
      go_wp2_with fail
      go_roundw
      case rel => exact ⟨k + 1, pa, pc, S ++ [s], by go_num, by omega, HOKN.out, by show _ = _; simp [hSl.out], HSn.out, HO6.out, HATn.out, HX6.out, HY6.out, HB6.out, HZ6.out⟩
      case measure => simp [intOf]; omega
     ·clear x0
      go_simp
      obtain ⟨w4, hw4⟩ : ∃ w4, Hid (w4 = w3.alloc (.cells #[.int .i64 x, .int .i64 z.level, .int .i64 z.kind, .string ⟨z.name.toArray⟩, .string ⟨z.text.toArray⟩, .slice A' z.attrs.length c'] 97)) := ⟨_, rfl⟩
      have hb4 : Below w3.heap.size w3 w4 := by rw [hw4.out]; exact (Below.refl _ w3).alloc (Nat.le_refl _) _
      have hx4 : w4.heap[w3.heap.size]? = some (.cells #[.int .i64 x, .int .i64 z.level, .int .i64 z.kind, .string ⟨z.name.toArray⟩, .string ⟨z.text.toArray⟩, .slice A' z.attrs.length c'] 97 (0, 0)) := by rw [hw4.out]; exact heap_alloc_new w3 _
      have HX4 : Hid (w4.heap[tb]? = some (.cells (treeV A2 k c2 next) 29 (0, 0))) := (hb4.block _ HZ3.out).trans HX3.out
      have HY4 : Hid (w4.heap[w.heap.size]? = some (.cells zeroT 29 (0, 0))) := (hb4.block _ (by have := HZ3.out; have := HTB.out; omega)).trans HY3.out
      have HB4 : Hid (Below w.heap.size w w4) := HBD.out.trans (hb4.mono HBD.out.size)
      have HO4 : Hid (RowsOwn w4 (tb + 1) A2 c2 S) := HO3.out.keepB hb4
      have HZ4 : Hid (tb < w4.heap.size) := Nat.lt_of_lt_of_le HZ3.out hb4.size
      obtain ⟨s, hs⟩ : ∃ s : SlotR, Hid (s = (⟨x, z⟩, A', c')) := ⟨_, rfl⟩
      obtain ⟨pa, pc, w5, hr5, hrow5, hg5, hf5⟩ := run_append_rows (World.ownsRow.mono HO4.out (Nat.zero_le _)) [s] (by simp) ⟨w3.heap.size, 0, none⟩ 1 (fun j u hj => by
       rw [add_zero_block]
       refine cell_row hx4 j u ?_
       rw [hs.out] at hj
       match j, hj with
       | 0, hj => simpa [cellsR] using hj
       | 1, hj => simpa [cellsR] using hj
       | 2, hj => simpa [cellsR] using hj
       | 3, hj => simpa [cellsR, strV] using hj
       | 4, hj => simpa [cellsR, strV] using hj
       | 5, hj => simpa [cellsR] using hj
       | j + 6, hj => simp [cellsR] at hj) (by rw [hSl.out]; omega) (by simp)
      simp only [List.length_singleton] at hr5 hf5
      have hlow : ∀ b, (Value.slice A2 S.length c2).ownBlock = some b → tb + 1 ≤ b := fun b hb => (HO4.out.lt b hb).1
      have HB5 : Hid (Below w.heap.size w w5) := HB4.out.grown hg5 HB4.out.size (fun b hb => by have := hlow b hb; have := HTB.out; omega)
      have HX5 : Hid (w5.heap[tb]? = some (.cells (treeV A2 k c2 next) 29 (0, 0))) := (hg5.block tb HZ4.out (fun h => by have := hlow tb h.symm; omega)).trans HX4.out
      have HY5 : Hid (w5.heap[w.heap.size]? = some (.cells zeroT 29 (0, 0))) := (hg5.block _ (by have := HZ4.out; have := HTB.out; omega) (fun h => by have := hlow _ h.symm; have := HTB.out; omega)).trans HY4.out
      have HZ5 : Hid (tb < w5.heap.size) := Nat.lt_of_lt_of_le HZ4.out hg5.size
      have HO5 : Hid (RowsOwn w5 (tb + 1) pa pc (S ++ [s])) := by
       refine own_up hrow5 fun b hb => ?_
       rw [show (S ++ [s]).length = S.length + 1 by simp] at hb
       rcases hf5 b hb with h | h
       ·exact hlow b h
       ·have := HZ4.out; omega
      rw [hSl.out] at hr5
      have HSn : Hid ((S ++ [s]).map (·.1) = (restL l ids).take (k + 1)) := by
       show _ = _
       rw [List.map_append, hS.out, HSNN.out, hs.out]; rfl
      have HATn : Hid (AttrsOf X w N (S ++ [s])) := fun s' hs' => by
       rcases List.mem_append.1 hs' with h | h
       ·exact hat.out s' h
       ·rw [List.mem_singleton.1 h, hs.out]; exact HATW.out
      rw [← hw4.out]
      clear hb4 hx4 hrow5 hg5 hf5 hlow
      refine hK.out _ _ (HSW.out w4 HB4.out) (fun hHeld => ?_)
      clear hK K
      try go_frame
      have x0 : w4.cell? ⟨tb, 0, none⟩ = some (.slice A2 k c2) := cell_row HX4.out 0 _ rfl
      refine rdy 1 (fun K hK => ?_)
      go_simp
      refine hK.out _ _ (HSW.out w4 HB4.out) (fun hHeld => ?_)
      clear hK K
      try go_frame
      clear x0
      refine rdy 12 (fun K hK => ?_)
      refine step_append rfl (.tmp 65) (.tmp 75) 27 rfl (.slice A2 k c2) (.slice (some ⟨w3.heap.size, 0, none⟩) 1 1) (by simp [Act.eval]) (by simp [Act.eval]) hr5 ?_
      refine hK.out _ _ (HSW.out w5 HB5.out) (fun hHeld => ?_)
      clear hK K
      try go_frame
      refine tkv 13 (h := ?_)
      have f0 := free_row HX5.out 0
      have o0 := cell_row HX5.out 0 _ rfl
      refine rdy 14 (fun K hK => ?_)
      go_simp
      obtain ⟨w6, hw6⟩ : ∃ w6, Hid (w5.setCell ⟨tb, 0, none⟩ (.slice pa (k + 1) pc) = w6) := ⟨_, rfl⟩
      have HX6 : Hid (w6.heap[tb]? = some (.cells (treeV pa (k + 1) pc next) 29 (0, 0))) := by show _ = _; rw [← hw6.out]; exact Lib.heap_setCell_same (i := 0) HX5.out _
      have hoth : ∀ b, b ≠ tb → w6.heap[b]? = w5.heap[b]? := fun b hb => by rw [← hw6.out]; exact Below.heap_setCell _ _ _ _ hb
      have HY6 : Hid (w6.heap[w.heap.size]? = some (.cells zeroT 29 (0, 0))) := (hoth _ (by have := HTB.out; omega)).trans HY5.out
      have HO6 : Hid (RowsOwn w6 (tb + 1) pa pc (S ++ [s])) := row_block HO5.out fun b hb => hoth b (by have := (HO5.out.lt b hb).1; omega)
      have HB6 : Hid (Below w.heap.size w w6) := by show Below _ _ _; rw [← hw6.out]; exact HB5.out.setCell (by show w.heap.size ≤ tb; have := HTB.out; omega) _
      have HZ6 : Hid (tb < w6.heap.size) := by show _ < _; rw [← hw6.out]; simpa using HZ5.out
      rw [hw6.out]
      clear f0 o0 hoth hr5
      refine hK.out _ _ (HSW.out w6 HB6.out) (fun hHeld => ?_)
      clear hK K
      try go_frame
      refine wpAnyH_done (by kernel_rfl) ?_ _
      go_wp2_with fail
      go_roundw
      case rel => exact ⟨k + 1, pa, pc, S ++ [s], by go_num, by omega, HOKN.out, by show _ = _; simp [hSl.out], HSn.out, HO6.out, HATn.out, HX6.out, HY6.out, HB6.out, HZ6.out⟩
      case measure => simp [intOf]; omega
  ·have k1 : ¬ (k : Int) < (ids.length : Int) := by omega
   have hkk : k = ids.length := by omega
   have hok' := hok.out
   rw [List.take_of_length_le (by omega)] at hok'
   have HOK := Lib.hid hok'
   have hS' := hS.out
   rw [List.take_of_length_le (by rw [rest_len HLN.out]; have := HLN.out; omega)] at hS'
   have HSF := Lib.hid hS'
   have hklen : k = (restL l ids).length := by rw [rest_len HLN.out]; have := HLN.out; omega
   have HKL := Lib.hid hklen
   have HTR : Hid (TreeR X wr A2 c2 (restL l ids)) := TreeR.of (World.ownsRow.mono hown.out (by have := HTB.out; omega)) (hat.out.more hN) hbl.out HSF.out HXN.out
   have hres : restE l ids next = if l = [] then 0 else (checkL l).2 := by rw [HRES.out, if_neg (by simpa using HOK.out)]
   have HRS := Lib.hid hres
   obtain ⟨cn, ce, hce⟩ : ∃ cn ce, Hid (checkL l = (cn, ce)) := ⟨_, _, rfl⟩
   clear hok' hres hS' hkk hklen
   go_wp2_with fail
   refine (RCheck_any l A c wr ((HI.out.below (hbl.out.mono hN)).more (Nat.le_trans hN hbl.out.size)) HS.out cn ce hce).mono ?_
   rintro e w5 ⟨rfl, hb5⟩
   have HB5 : Hid (Below w.heap.size w w5) := hbl.out.trans (hb5.mono hbl.out.size)
   have HX5 : Hid (w5.heap[tb]? = some (.cells (treeV A2 k c2 next) 29 (0, 0))) := (hb5.block _ hzt.out).trans hx.out
   have HY5 : Hid (w5.heap[w.heap.size]? = some (.cells zeroT 29 (0, 0))) := (hb5.block _ (by have := hzt.out; have := HTB.out; omega)).trans hy.out
   have HTR5 := Lib.hid (HTR.out.below hb5)
   clear hb5
   by_cases hbad : l ≠ [] ∧ ce ≠ 0
   ·have t1 : (0 : Int) < (l.length : Int) := by
     have : l.length ≠ 0 := fun h => hbad.1 (List.length_eq_zero_iff.1 h)
     omega
    have t2 : (ce != 0) = true := by simpa using hbad.2
    have HE : Hid (restE l ids next = ce) := by show _ = _; rw [HRS.out, if_neg hbad.1, hce.out]
    have HCE := Lib.hid hbad.2
    clear hbad
    go_wp2_with (refine wpList_store_row rfl 29 (.tmp 6) (.tmp 90) rfl w.heap.size zeroT rfl rfl 29 zeroT HY5.out (by kernel_rfl) rfl zeroT_one ?_)
    try simp only [Exit.inBlock, Exit.then]
    refine bodyPost_ret (results_cellb Tryz.results35 _ _ w.heap.size 29 zeroT (0, 0) _ rfl (setRow_heap _ _ _ _ _ _ HY5.out) Tryz.underlying29 rfl (by kernel_rfl)) rfl ?_
    have hb' := HB5.out
    exact .inl ⟨by rw [HE.out]; exact HCE.out, by rw [HE.out]; rfl, hb'.os, hb'.tape, hb'.output, by rw [setRow_size]; exact hb'.size, fun b hb => (setRow_other _ _ _ _ (by omega)).trans (hb'.block b hb)⟩
   ·have HE : Hid (restE l ids next = 0) := by
     show _ = _
     rw [HRS.out]
     by_cases hl : l = []
     ·rw [if_pos hl]
     ·rw [if_neg hl, hce.out]
      exact Decidable.byContradiction fun h => hbad ⟨hl, h⟩
    have x0 : w5.cell? ⟨tb, 0, none⟩ = some (.slice A2 k c2) := cell_row HX5.out 0 _ rfl
    have x1 : w5.cell? ⟨tb, 1, none⟩ = some (.int .i64 next) := cell_row HX5.out 1 _ rfl
    by_cases hl : l = []
    ·have t1 : ¬ (0 : Int) < (l.length : Int) := by simp [hl]
     clear hbad hl
     go_wp2_with (refine wpList_store_row rfl 29 (.tmp 6) (.tmp 92) rfl w.heap.size (treeV A2 k c2 next) rfl rfl 29 zeroT HY5.out (by kernel_rfl) rfl (treeV_one _ _ _ _) ?_)
     try simp only [Exit.inBlock, Exit.then]
     refine bodyPost_ret (results_cellb Tryz.results35 _ _ w.heap.size 29 (treeV A2 k c2 next) (0, 0) _ rfl (setRow_heap _ _ _ _ _ _ HY5.out) Tryz.underlying29 rfl (by kernel_rfl)) rfl ?_
     obtain ⟨r1, r2⟩ := HTR5.out.laid HB5.out (g := w.heap.size) (Nat.le_refl _) HY5.out (treeV A2 k c2 next)
     exact .inr ⟨HE.out, A2, c2, by rw [← HKL.out]; rfl, r1, r2⟩
    ·have t1 : (0 : Int) < (l.length : Int) := by
      have : l.length ≠ 0 := fun h => hl (List.length_eq_zero_iff.1 h)
      omega
     have t2 : (ce != 0) = false := by
      have : ce = 0 := Decidable.byContradiction fun h => hbad ⟨hl, h⟩
      simp [this]
     clear hbad hl
     go_wp2_with (refine wpList_store_row rfl 29 (.tmp 6) (.tmp 92) rfl w.heap.size (treeV A2 k c2 next) rfl rfl 29 zeroT HY5.out (by kernel_rfl) rfl (treeV_one _ _ _ _) ?_)
     try simp only [Exit.inBlock, Exit.then]
     refine bodyPost_ret (results_cellb Tryz.results35 _ _ w.heap.size 29 (treeV A2 k c2 next) (0, 0) _ rfl (setRow_heap _ _ _ _ _ _ HY5.out) Tryz.underlying29 rfl (by kernel_rfl)) rfl ?_
     obtain ⟨r1, r2⟩ := HTR5.out.laid HB5.out (g := w.heap.size) (Nat.le_refl _) HY5.out (treeV A2 k c2 next)
     exact .inr ⟨HE.out, A2, c2, by rw [← HKL.out]; rfl, r1, r2⟩
end
section
open Go.RowKit Go.Shelf
theorem walk_GroveRestores (l : List ItemD) (A : Option Addr) (c : Nat) (ids : List Int) (Av : Option Addr) (cv : Nat) (os : List OpD) (Ao : Option Addr) (co : Nat) (w : World) (hI : ItemsAt w w.heap.size A l) (hS : SmallDoc l) (hD : IntsAt w w.heap.size Av ids) (hSD : ids.length ≤ 1048576 ∧ ∀ x ∈ ids, wfI x) (hO : OpsAt w w.heap.size Ao os) (hSO : SmallOps os) :
  Calls Tryz.prog 9 #[.slice A l.length c, .slice Av ids.length cv, .slice Ao os.length co] w (Ret w (.bool true)) := by
 have HI := Lib.hid hI
 have HS := Lib.hid hS.1
 have HD := Lib.hid hD
 have HWI := Lib.hid hSD.2
 have HO := Lib.hid hO
 have HSO := Lib.hid hSO
 have l0 : (0 : Int) ≤ (l.length : Int) := by omega
 have i0 : (0 : Int) ≤ (ids.length : Int) := by omega
 clear hI hS hD hSD hO hSO
 by_cases hl : 300 < l.length
 ·have hl1 : (300 : Int) < (l.length : Int) := by omega
  clear hl
  go_enter Tryz.func9, Tryz.ntmps9
  go_wp2_with fail
  refine (alive_any w).mono ?_
  rintro e v9 ⟨rfl, hb9⟩
  have HB9 : Hid (Below w.heap.size w v9) := (Below.refl w.heap.size w).trans (hb9.mono (Below.refl w.heap.size w).size)
  clear hb9
  go_wp2_with fail
  go_ret
  exact ⟨rfl, HB9.out⟩
 have l1 : ¬ (300 : Int) < (l.length : Int) := by omega
 by_cases hi : 300 < ids.length
 ·have hi1 : (300 : Int) < (ids.length : Int) := by omega
  clear hl hi
  go_enter Tryz.func9, Tryz.ntmps9
  go_wp2_with fail
  refine (alive_any w).mono ?_
  rintro e v9 ⟨rfl, hb9⟩
  have HB9 : Hid (Below w.heap.size w v9) := (Below.refl w.heap.size w).trans (hb9.mono (Below.refl w.heap.size w).size)
  clear hb9
  go_wp2_with fail
  go_ret
  exact ⟨rfl, HB9.out⟩
 have i1 : ¬ (300 : Int) < (ids.length : Int) := by omega
 have hl3 : Hid (l.length ≤ 100000 ∧ ids.length ≤ 100000) := by show _ ∧ _; omega
 clear hl hi
 go_enter Tryz.func9, Tryz.ntmps9
 go_wp2_with fail
 cases hfew : fewL os with
 | false =>
  refine (few_any os Ao co w.heap.size w HO.out (Nat.le_refl _) HSO.out false hfew).mono ?_
  rintro e w2 ⟨rfl, hb2⟩
  have HB2 := Lib.hid hb2
  clear hb2 hfew
  go_wp2_with fail
  refine (alive_any w2).mono ?_
  rintro e v9 ⟨rfl, hb9⟩
  have HB9 : Hid (Below w.heap.size w v9) := HB2.out.trans (hb9.mono HB2.out.size)
  clear hb9
  go_wp2_with fail
  go_ret
  exact ⟨rfl, HB9.out⟩
 | true =>
 have HFEW := Lib.hid hfew
 refine (few_any os Ao co w.heap.size w HO.out (Nat.le_refl _) HSO.out true hfew).mono ?_
 rintro e w2 ⟨rfl, hb2⟩
 have HB2 := Lib.hid hb2
 clear hb2 hfew
 go_wp2_with fail
 go_loopw [34, 7] (fun i nx wr => ∃ (k : Nat) (n : Int), i = .int .i64 (k : Int) ∧ nx = .int .i64 n ∧ k ≤ ids.length ∧ 1 ≤ n ∧ n ≤ 1073741824 ∧ Hid (Below w.heap.size w wr)) (fun i _ _ => ids.length - (intOf i).toNat)
 case atStart => exact ⟨0, 1, rfl, rfl, Nat.zero_le _, by decide, by decide, HB2.out⟩
 case round =>
  obtain ⟨k, n, rfl, rfl, hk, hn1, hn2, hbl⟩ := hrel
  have k0 : (0 : Int) ≤ (k : Int) := by omega
  by_cases hkl : k < ids.length
  ·have k1 : (k : Int) < (ids.length : Int) := by omega
   obtain ⟨x, hx⟩ : ∃ x, Hid (ids[k]? = some x) := ⟨ids[k], List.getElem?_eq_getElem _⟩
   have hwx := HWI.out x (List.mem_of_getElem? hx.out)
   obtain ⟨va, hva, _, hcl⟩ := (HD.out.below hbl.out) (by omega)
   subst hva
   have cid := hcl k x hx.out
   have HWX := Lib.hid hwx
   clear hcl hwx
   by_cases hx1 : 0 < x
   ·by_cases hx2 : x < 1073741824
    ·go_wp2_with fail
     go_roundw
     case rel => exact ⟨k + 1, max n (x + 1), by go_num, by go_num, by omega, by omega, by omega, hbl.out⟩
     case measure => simp [intOf]; omega
    ·go_wp2_with fail
     go_roundw
     case rel => exact ⟨k + 1, n, by go_num, rfl, by omega, by omega, by omega, hbl.out⟩
     case measure => simp [intOf]; omega
   ·go_wp2_with fail
    go_roundw
    case rel => exact ⟨k + 1, n, by go_num, rfl, by omega, by omega, by omega, hbl.out⟩
    case measure => simp [intOf]; omega
  ·have k1 : ¬ (k : Int) < (ids.length : Int) := by omega
   have HN : Hid (1 ≤ n ∧ n ≤ 1073741824) := ⟨hn1, hn2⟩
   clear hkl
   go_wp2_with fail
   refine (Restore_in l A c ids Av cv n wr ((HI.out.below hbl.out).more hbl.out.size) HS.out ((HD.out.below hbl.out).more hbl.out.size) hl3.out.1 hl3.out.2 HWI.out).mono ?_
   obtain ⟨E, hE⟩ : ∃ E, Hid (restE l ids n = E) := ⟨_, rfl⟩
   rintro e w4 (⟨hne, rfl, hb4⟩ | ⟨hz, t, M4, f4, rfl, ht4, hf4, hm4, hb4⟩)
   ·rw [hE.out] at hne ⊢
    have e1 : (E == 0) = false := by simpa using hne
    have HNE := Lib.hid hne
    have HB4 : Hid (Below w.heap.size w w4) := hbl.out.trans (hb4.mono hbl.out.size)
    clear hne hb4
    go_wp2_with fail
    refine (RRestore_any (X := fun _ => True) l A c w.heap.size ids Av cv n w4 (HI.out.below HB4.out) HB4.out.size (fun _ _ => trivial) (fun _ _ => trivial) HS.out ((HD.out.below HB4.out).more HB4.out.size) hl3.out.1 hl3.out.2).mono ?_
    rintro e w5 (⟨_, rfl, hb5⟩ | ⟨h, _⟩)
    case inr => exact absurd (hE.out.symm.trans h) HNE.out
    rw [hE.out]
    unfold zeroT
    have HB5 : Hid (Below w.heap.size w w5) := HB4.out.trans (hb5.mono HB4.out.size)
    clear hb5
    obtain ⟨W5, hW5⟩ : ∃ W5, Hid (W5 = w5.alloc (.cells #[.slice none 0 0, .int .i64 0] 29)) := ⟨_, rfl⟩
    have hb5' : Below w5.heap.size w5 W5 := by rw [hW5.out]; exact (Below.refl _ w5).alloc (Nat.le_refl _) _
    have HBW : Hid (Below w.heap.size w W5) := HB5.out.trans (hb5'.mono HB5.out.size)
    clear hb5'
    go_upto_region 12 with (fail)
    rw [← hW5.out]
    go_wp2_with fail
    refine (Restore_in [] none 0 [] none 0 0 W5 (fun h => absurd h (by simp)) ⟨by simp, fun j x hx => by simp at hx⟩ (fun h => absurd h (by simp)) (by simp) (by simp) (fun x hx => by simp at hx)).mono ?_
    rintro e w6 (⟨_, rfl, hb6⟩ | ⟨h, _⟩)
    case inr => exact absurd h (by decide)
    rw [show restE [] [] 0 = 1 by decide]
    have HB6 : Hid (Below w.heap.size w w6) := HBW.out.trans (hb6.mono HBW.out.size)
    clear hb6
    go_wp2_with fail
    refine (alive_any w6).mono ?_
    rintro e v9 ⟨rfl, hb9⟩
    have HB9 : Hid (Below w.heap.size w v9) := HB6.out.trans (hb9.mono HB6.out.size)
    clear hb9
    go_wp2_with fail
    go_ret
    exact ⟨rfl, HB9.out⟩
   ·rw [hE.out] at hz
    have hz' : E = 0 := hz
    subst hz'
    have HT4 := Lib.hid ht4
    have HF4 := Lib.hid hf4
    have HM4 : Hid (∀ b, M4 b → w.heap.size ≤ b) := fun b hb => Nat.le_trans hbl.out.size (hm4 b hb)
    have HB4 : Hid (Below w.heap.size w w4) := hbl.out.trans (hb4.mono hbl.out.size)
    clear hz ht4 hf4 hm4 hb4
    go_wp2_with fail
    refine (RRestore_any (X := Off M4 fun _ => True) l A c w.heap.size ids Av cv n w4 (HI.out.below HB4.out) HB4.out.size (fun b hb => ⟨fun hm => by have := HM4.out b hm; omega, trivial⟩) (fun b hb => ⟨fun hm => by have := HT4.out.lt hm; omega, trivial⟩) HS.out ((HD.out.below HB4.out).more HB4.out.size) hl3.out.1 hl3.out.2).mono ?_
    rintro e w5 (⟨h, _⟩ | ⟨_, A5, c5, rfl, hr5, hb5⟩)
    case inl => exact absurd hE.out h
    unfold treeV
    rw [← HF4.out] at hr5 ⊢
    have hb5' := hb5
    have HT5 := Lib.hid (HT4.out.below hb5)
    have HR5 := Lib.hid hr5
    have HB5 : Hid (Below w.heap.size w w5) := HB4.out.trans (hb5.mono HB4.out.size)
    clear hr5 hb5 hb5'
    obtain ⟨W5, hW5⟩ : ∃ W5, Hid (W5 = w5.alloc (.cells #[.slice A5 (f4.flat 0).length c5, .int .i64 n] 29)) := ⟨_, rfl⟩
    have hbw : Below w5.heap.size w5 W5 := by rw [hW5.out]; exact (Below.refl _ w5).alloc (Nat.le_refl _) _
    have hxw : W5.heap[w5.heap.size]? = some (.cells (treeV A5 (f4.flat 0).length c5 n) 29 (0, 0)) := by rw [hW5.out]; exact heap_alloc_new w5 _
    have HZW : Hid (w5.heap.size < W5.heap.size) := by show _ < _; rw [hW5.out]; simp
    have HXW := Lib.hid hxw
    have HTW := Lib.hid (HT5.out.below hbw)
    have HRW := Lib.hid (HR5.out.below hbw)
    have HBW : Hid (Below w.heap.size w W5) := HB5.out.trans (hbw.mono HB5.out.size)
    clear hbw hxw
    go_upto_region 12 with (fail)
    rw [← hW5.out]
    go_wp2_with fail
    refine (Restore_in [] none 0 [] none 0 0 W5 (fun h => absurd h (by simp)) ⟨by simp, fun j x hx => by simp at hx⟩ (fun h => absurd h (by simp)) (by simp) (by simp) (fun x hx => by simp at hx)).mono ?_
    rintro e w6 (⟨_, rfl, hb6⟩ | ⟨h, _⟩)
    case inr => exact absurd h (by decide)
    rw [show restE [] [] 0 = 1 by decide]
    have HB6 : Hid (Below w.heap.size w w6) := HBW.out.trans (hb6.mono HBW.out.size)
    have HT6 := Lib.hid (HTW.out.below hb6)
    have HR6 := Lib.hid (HRW.out.below hb6)
    have HX6 : Hid (w6.heap[w5.heap.size]? = some (.cells (treeV A5 (f4.flat 0).length c5 n) 29 (0, 0))) := (hb6.block _ HZW.out).trans HXW.out
    have HZ6 : Hid (w5.heap.size < w6.heap.size) := Nat.lt_of_lt_of_le HZW.out hb6.size
    clear hb6
    have x0 : w6.cell? ⟨w5.heap.size, 0, none⟩ = some (.slice A5 (f4.flat 0).length c5) := cell_row HX6.out 0 _ rfl
    have x1 : w6.cell? ⟨w5.heap.size, 1, none⟩ = some (.int .i64 n) := cell_row HX6.out 1 _ rfl
    go_wp2_with fail
    refine (stands_in A5 c5 n HT6.out HR6.out).mono ?_
    rintro e w7 ⟨rfl, hb7⟩
    have HB7 : Hid (Below w.heap.size w w7) := HB6.out.trans (hb7.mono HB6.out.size)
    have HT7 := Lib.hid (HT6.out.below hb7)
    have HR7 := Lib.hid (HR6.out.below hb7)
    have HX7 : Hid (w7.heap[w5.heap.size]? = some (.cells (treeV A5 (f4.flat 0).length c5 n) 29 (0, 0))) := (hb7.block _ HZ6.out).trans HX6.out
    clear hb7 x0 x1
    go_wp2_with fail
    refine (Next_in HT7.out).mono ?_
    rintro e w8 ⟨rfl, rfl⟩
    have x0 : w7.cell? ⟨w5.heap.size, 0, none⟩ = some (.slice A5 (f4.flat 0).length c5) := cell_row HX7.out 0 _ rfl
    have x1 : w7.cell? ⟨w5.heap.size, 1, none⟩ = some (.int .i64 n) := cell_row HX7.out 1 _ rfl
    go_wp2_with fail
    refine (plays_in os Ao co w.heap.size t f4 n A5 c5 M4 (fun _ => True) w7 HT7.out HR7.out (HO.out.below HB7.out) HM4.out HB7.out.size HSO.out HFEW.out (fun _ _ => trivial) (fun _ _ => trivial)).mono ?_
    rintro e w8 ⟨M8, f8, next8, A8, c8, he8, ht8, hr8, hg8, _⟩
    unfold treeV at he8
    subst he8
    have HT8 := Lib.hid ht8
    have HR8 := Lib.hid hr8
    have HB8 : Hid (Below w.heap.size w w8) := HB7.out.trans (hg8.1.below HM4.out HB7.out.size)
    clear ht8 hr8 hg8 x0 x1
    obtain ⟨W9, hW9⟩ : ∃ W9, Hid (W9 = w8.alloc (.cells #[.slice A8 (f8.flat 0).length c8, .int .i64 next8] 29)) := ⟨_, rfl⟩
    have hbz : Below w8.heap.size w8 W9 := by rw [hW9.out]; exact (Below.refl _ w8).alloc (Nat.le_refl _) _
    have hxz : W9.heap[w8.heap.size]? = some (.cells (treeV A8 (f8.flat 0).length c8 next8) 29 (0, 0)) := by rw [hW9.out]; exact heap_alloc_new w8 _
    have HZ9 : Hid (w8.heap.size < W9.heap.size) := by show _ < _; rw [hW9.out]; simp
    have HX9 := Lib.hid hxz
    have HT9 := Lib.hid (HT8.out.below hbz)
    have HR9 := Lib.hid (HR8.out.below hbz)
    have HB9 : Hid (Below w.heap.size w W9) := HB8.out.trans (hbz.mono HB8.out.size)
    clear hbz hxz
    go_upto_region 20 with (fail)
    rw [← hW9.out]
    go_wp2_with fail
    refine (alive_any W9).mono ?_
    rintro e v1 ⟨rfl, hb1⟩
    have HT10 := Lib.hid (HT9.out.below hb1)
    have HR10 := Lib.hid (HR9.out.below hb1)
    have HX10 : Hid (v1.heap[w8.heap.size]? = some (.cells (treeV A8 (f8.flat 0).length c8 next8) 29 (0, 0))) := (hb1.block _ HZ9.out).trans HX9.out
    have HB10 : Hid (Below w.heap.size w v1) := HB9.out.trans (hb1.mono HB9.out.size)
    clear hb1
    have x0 : v1.cell? ⟨w8.heap.size, 0, none⟩ = some (.slice A8 (f8.flat 0).length c8) := cell_row HX10.out 0 _ rfl
    have x1 : v1.cell? ⟨w8.heap.size, 1, none⟩ = some (.int .i64 next8) := cell_row HX10.out 1 _ rfl
    go_wp2_with fail
    refine (stands_in A8 c8 next8 HT10.out HR10.out).mono ?_
    rintro e v2 ⟨rfl, hb2⟩
    have HB11 : Hid (Below w.heap.size w v2) := HB10.out.trans (hb2.mono HB10.out.size)
    clear hb2 x0 x1
    go_wp2_with fail
    go_ret
    exact ⟨rfl, HB11.out⟩
end
section
open Go.RowKit Go.ChangeShapes Go.WideShapes Go.Deep
theorem add_more (ad : Addr) (a j : Nat) (hj : j ≠ 0) : ad.add (a + j) = ⟨(ad.add a).block, (ad.add a).off + j, none⟩ := by
 rw [← add_of_add]
 generalize ad.add a = b
 unfold Addr.add
 rw [if_neg hj]
theorem slice_structs {H : Type} {enc : TypeId × Value → H} {P : Program} {w : World} {t e : TypeId} {fs : Array Field} {fuel : Nat} {cs : List Value} {x : DataW H × List MemPlace} (ht : P.underlying t = some (.slice e)) (he : P.underlying e = some (.struct fs))
  (h1 : oneCellFields P fs = true) (h2 : P.cellsOf e = fs.size) (h : DataW.trod enc P w 0 (fun _ => true) true fuel t cs = some x) :
  (cs = [.slice none 0 0] ∧ x.1 = .nil) ∨
  ∃ (a : Addr) (len cap : Nat) (D : Nat → DataW H) (rest : List (DataW H)), cs = [.slice (some a) len cap] ∧ len ≤ cap ∧ cap ≤ maxLen ∧ x.1 = .slice ((List.range len).map D) rest ∧
   ∀ i, i < len → ∃ (ys : List (DataW H × List MemPlace)) (n : Nat), D i = .agg (ys.map (·.1)) ∧ ys.length = fs.size ∧
    ∀ (j : Nat) (f : Field), fs[j]? = some f → ∃ v y, w.cell? (a.add (i * fs.size + j)) = some v ∧ ys[j]? = some y ∧ DataW.trod enc P w 0 (fun _ => true) true n f.type [v] = some y := by
 rcases open_slice ht h with ⟨e1, e2⟩ | ⟨a, len, cap, m, n, D, Pl, e1, _, k1, k2, k3, e2, each⟩
 ·exact .inl ⟨e1, by rw [e2]⟩
 ·right
  have hm : m = cap := by simpa using k3
  refine ⟨a, len, cap, D, _, e1, k1, k2, by rw [e2], fun i hi => ?_⟩
  obtain ⟨row, hrow, hread⟩ := each i (by omega)
  obtain ⟨_, hl, hat⟩ := World.cells?_some hrow
  obtain ⟨ys, n', _, hy, _, hyl, hfield⟩ := DataW.trod_struct he hread
  refine ⟨ys, n', by rw [Prod.mk.injEq] at hy; exact hy.1, hyl, fun j f hj => ?_⟩
  have hjs : j < fs.size := (Array.getElem?_eq_some_iff.1 hj).1
  obtain ⟨o1, o2⟩ := hone_of h1 j f hj
  have hjr : j < row.length := by rw [hl, h2]; exact hjs
  have hv := hat j (by rw [h2]; exact hjs)
  have hone : (row.drop f.offset).take (P.cellsOf f.type) = [row[j]] := by rw [o1, o2, List.drop_eq_getElem_cons hjr]; rfl
  have hr := hfield j f hj
  rw [hone] at hr
  have hys : ys[j]? = some (ys[j]'(by omega)) := List.getElem?_eq_getElem _
  refine ⟨row[j], _, ?_, hys, hr.trans hys⟩
  rw [h2, add_of_add, List.getElem?_eq_getElem hjr] at hv
  exact hv
theorem list_of {α : Type} {P : Nat → α → Prop} : ∀ (n : Nat), (∀ i, i < n → ∃ x, P i x) → ∃ l : List α, l.length = n ∧ ∀ i x, l[i]? = some x → P i x
 | 0, _ => ⟨[], rfl, fun _ _ h => by simp at h⟩
 | n + 1, h => by
  obtain ⟨l, hl, hp⟩ := list_of n (fun i hi => h i (by omega))
  obtain ⟨x, hx⟩ := h n (by omega)
  refine ⟨l ++ [x], by simp [hl], fun i y hy => ?_⟩
  by_cases hi : i < l.length
  ·rw [List.getElem?_append_left hi] at hy; exact hp i y hy
  ·rw [List.getElem?_append_right (by omega)] at hy
   have : i - l.length = 0 := by
    have := (List.getElem?_eq_some_iff.1 hy).1
    simp at this; omega
   rw [this] at hy
   simp at hy; subst hy
   rw [show i = n by omega]; exact hx
theorem bulkAll_range {H : Type} (D : Nat → DataW H) : ∀ n i, i < n → Rows.uptoBulk (D i) ≤ Rows.uptoBulkAll ((List.range n).map D) := by
 have app : ∀ (a b : List (DataW H)), Rows.uptoBulkAll (a ++ b) = Rows.uptoBulkAll a + Rows.uptoBulkAll b := by
  intro a b
  induction a with
  | nil => simp [Rows.uptoBulkAll]
  | cons x a ih => simp only [List.cons_append, Rows.uptoBulkAll, ih]; omega
 intro n
 induction n with
 | zero => intro i h; omega
 | succ n ih =>
  intro i h
  rw [List.range_succ, List.map_append, app]
  by_cases hi : i < n
  ·have := ih i hi; omega
  ·have : i = n := by omega
   subst this
   simp [Rows.uptoBulkAll]
theorem bulkAll_sum {H α : Type} (f : α → Nat) (D : Nat → DataW H) : ∀ (l : List α), (∀ i x, l[i]? = some x → f x ≤ Rows.uptoBulk (D i)) → (l.map f).sum ≤ Rows.uptoBulkAll ((List.range l.length).map D) := by
 have app : ∀ (a b : List (DataW H)), Rows.uptoBulkAll (a ++ b) = Rows.uptoBulkAll a + Rows.uptoBulkAll b := by
  intro a b
  induction a with
  | nil => simp [Rows.uptoBulkAll]
  | cons x a ih => simp only [List.cons_append, Rows.uptoBulkAll, ih]; omega
 have key : ∀ (n : Nat) (l : List α), l.length = n → (∀ i x, l[i]? = some x → f x ≤ Rows.uptoBulk (D i)) → (l.map f).sum ≤ Rows.uptoBulkAll ((List.range n).map D) := by
  intro n
  induction n with
  | zero => intro l hl _; rw [List.eq_nil_of_length_eq_zero hl]; simp
  | succ n ih =>
   intro l hl h
   have hne : l ≠ [] := fun e => by rw [e] at hl; cases hl
   rw [← List.dropLast_concat_getLast hne, List.map_append, List.sum_append, List.range_succ, List.map_append, app]
   have h1 := ih l.dropLast (by simp [hl]) (fun i x hx => h i x (by
    have hi := (List.getElem?_eq_some_iff.1 hx).1
    rw [List.getElem?_dropLast] at hx
    split at hx
    ·exact hx
    ·cases hx))
   have h2 := h n (l.getLast hne) (by rw [List.getLast_eq_getElem, ← List.getElem?_eq_getElem, hl]; rfl)
   simp only [List.map_cons, List.map_nil, List.sum_cons, List.sum_nil, Rows.uptoBulkAll]
   omega
 intro l h
 exact key l.length l rfl h
theorem sum_ones {α : Type} (l : List α) : (l.map (fun _ => 1)).sum = l.length := by
 induction l with
 | nil => rfl
 | cons x l ih => rw [List.map_cons, List.sum_cons, ih, List.length_cons]; omega
end
section
open Go.RowKit Go.ChangeShapes Go.WideShapes Go.Deep
theorem open_attrs {W : World} {H : Type} {enc : TypeId × Value → H} {fuel : Nat} {cs : List Value} {x : DataW H × List MemPlace} (h : DataW.trod enc Tryz.prog W 0 (fun _ => true) true fuel 48 cs = some x) :
  ∃ (A : Option Addr) (c : Nat) (l : List AttrD), cs = [.slice A l.length c] ∧ AttrsAt W W.heap.size A l ∧ l.length ≤ c ∧ (A = none → c = 0) ∧ l.length ≤ Rows.uptoBulk x.1 ∧ (∀ a ∈ l, a.name.length + a.value.length ≤ Rows.uptoBulk x.1) := by
 rcases slice_structs Tryz.underlying48 Tryz.underlying66 (by kernel_rfl) (by kernel_rfl) h with ⟨rfl, hx⟩ | ⟨a, len, cap, D, rest, rfl, hlc, hcm, hx, hf⟩
 ·exact ⟨none, 0, [], rfl, fun h => absurd h (by simp), Nat.le_refl _, fun _ => rfl, by simp, by simp⟩
 ·rw [hx]
  obtain ⟨l, hl, hp⟩ := list_of (P := fun i (y : AttrD) => W.cell? (a.add (i * 2)) = some (strV y.name) ∧ W.cell? ⟨(a.add (i * 2)).block, (a.add (i * 2)).off + 1, none⟩ = some (strV y.value) ∧ y.name.length + y.value.length + 1 ≤ Rows.uptoBulk (D i)) len (fun i hi => by
   obtain ⟨ys, n, hD, hyl, hj⟩ := hf i hi
   obtain ⟨v0, y0, hc0, hy0, ht0⟩ := hj 0 _ rfl
   obtain ⟨v1, y1, hc1, hy1, ht1⟩ := hj 1 _ rfl
   obtain ⟨s0, e0, rfl, _⟩ := DataW.trod_string Tryz.underlying9 ht0
   obtain ⟨s1, e1, rfl, _⟩ := DataW.trod_string Tryz.underlying9 ht1
   injection e0 with e0 _; subst e0
   injection e1 with e1 _; subst e1
   refine ⟨⟨s0.data.toList, s1.data.toList⟩, ?_, ?_, ?_⟩
   ·rw [Nat.add_zero] at hc0
    rw [show i * 2 = i * (_ : Nat) from rfl]; exact hc0
   ·rw [add_more _ _ _ (by decide)] at hc1; exact hc1
   ·rw [hD]
    match ys, hyl, hy0, hy1 with
    | [z0, z1], _, hy0, hy1 =>
     simp at hy0 hy1
     subst hy0; subst hy1
     simp [Rows.uptoBulk, Rows.uptoBulkAll]
     omega)
  refine ⟨some a, cap, l, by rw [hl], ?_, by omega, (fun h => by cases h), ?_, ?_⟩
  ·intro hpos
   have h0 : l[0]? = some (l[0]'hpos) := List.getElem?_eq_getElem hpos
   have hb := World.block_lt_of_cell? W _ (hp 0 _ h0).1
   rw [block_of_add] at hb
   exact ⟨a, rfl, hb, fun k y hy => ⟨(hp k y hy).1, (hp k y hy).2.1⟩⟩
  ·have := bulkAll_sum (fun _ : AttrD => 1) D l (fun i y hy => by have := (hp i y hy).2.2; omega)
   rw [hl] at this
   simp only [Rows.uptoBulk]
   have e := sum_ones l
   omega
  ·intro y hy
   obtain ⟨k, hk⟩ := List.mem_iff_getElem?.1 hy
   have h1 := (hp k y hk).2.2
   have h2 := bulkAll_range D len k (by rw [← hl]; exact (List.getElem?_eq_some_iff.1 hk).1)
   simp only [Rows.uptoBulk]
   omega
def NilAt (w : World) (A : Option Addr) (l : List ItemD) : Prop := ∀ ad, A = some ad → ∀ k x A' c', l[k]? = some x → w.cell? ⟨(ad.add (k * 5)).block, (ad.add (k * 5)).off + 4, none⟩ = some (.slice A' x.attrs.length c') → A' = none → c' = 0
theorem open_items {W : World} {H : Type} {enc : TypeId × Value → H} {v : Value} {d : DataW H} {p : List MemPlace} (hok : ∃ a n c, v = .slice a n c) (h : DataW.Trod enc Tryz.prog W 0 (fun _ => true) true 34 v d p) (hbulk : Rows.uptoBulk d ≤ 1048576) :
  ∃ (A : Option Addr) (c : Nat) (l : List ItemD), v = .slice A l.length c ∧ ItemsAt W W.heap.size A l ∧ SmallDoc l ∧ l.length ≤ 1048576 ∧ textSum l ≤ 1048576 ∧ NilAt W A l := by
 obtain ⟨va, vn, vc, rfl⟩ := hok
 obtain ⟨fuel, h⟩ := h
 rcases slice_structs Tryz.underlying34 Tryz.underlying62 (by kernel_rfl) (by kernel_rfl) h with ⟨e, e2⟩ | ⟨a, len, cap, D, rest, e, hlc, hcm, e2, hf⟩
 ·injection e with e _
  injection e with e1 e2' e3
  subst e1; subst e2'; subst e3
  refine ⟨none, 0, [], rfl, fun h => absurd h (by simp), ⟨⟨by simp, fun _ _ h => by simp at h⟩, by simp [textSum]⟩, by simp, by simp [textSum], fun _ h => by cases h⟩
 ·injection e with e _
  injection e with e1 e2' e3
  subst e1
  have e2'' := e2'.symm
  have e3'' := e3.symm
  subst e2''; subst e3''
  have e2 : d = .slice ((List.range len).map D) rest := e2
  subst e2
  obtain ⟨l, hl, hp⟩ := list_of (P := fun i (x : ItemD) => ∃ (A' : Option Addr) (c' : Nat), AttrsAt W W.heap.size A' x.attrs ∧ x.attrs.length ≤ c' ∧ W.cell? (a.add (i * 5)) = some (.int .i64 x.level) ∧ W.cell? ⟨(a.add (i * 5)).block, (a.add (i * 5)).off + 1, none⟩ = some (.int .i64 x.kind) ∧
    W.cell? ⟨(a.add (i * 5)).block, (a.add (i * 5)).off + 2, none⟩ = some (strV x.name) ∧ W.cell? ⟨(a.add (i * 5)).block, (a.add (i * 5)).off + 3, none⟩ = some (strV x.text) ∧ W.cell? ⟨(a.add (i * 5)).block, (a.add (i * 5)).off + 4, none⟩ = some (.slice A' x.attrs.length c') ∧
    (-9223372036854775808 ≤ x.level ∧ x.level ≤ 9223372036854775807) ∧ x.name.length + x.text.length + x.attrs.length + 1 ≤ Rows.uptoBulk (D i) ∧ (∀ y ∈ x.attrs, y.name.length + y.value.length ≤ Rows.uptoBulk (D i)) ∧ (A' = none → c' = 0)) len (fun i hi => by
   obtain ⟨ys, n, hD, hyl, hj⟩ := hf i hi
   obtain ⟨v0, y0, hc0, hy0, ht0⟩ := hj 0 _ rfl
   obtain ⟨v1, y1, hc1, hy1, ht1⟩ := hj 1 _ rfl
   obtain ⟨v2, y2, hc2, hy2, ht2⟩ := hj 2 _ rfl
   obtain ⟨v3, y3, hc3, hy3, ht3⟩ := hj 3 _ rfl
   obtain ⟨v4, y4, hc4, hy4, ht4⟩ := hj 4 _ rfl
   obtain ⟨n0, e0, rfl, w0⟩ := DataW.trod_int Tryz.underlying3 ht0
   obtain ⟨n1, e1, rfl, _⟩ := DataW.trod_int Tryz.underlying3 ht1
   obtain ⟨s2, e2, rfl, _⟩ := DataW.trod_string Tryz.underlying9 ht2
   obtain ⟨s3, e3, rfl, _⟩ := DataW.trod_string Tryz.underlying9 ht3
   obtain ⟨A', c', la, e4, hat, hlc', hnil, hb1, hb2⟩ := open_attrs ht4
   injection e0 with e0 _; subst e0
   injection e1 with e1 _; subst e1
   injection e2 with e2 _; subst e2
   injection e3 with e3 _; subst e3
   injection e4 with e4 _; subst e4
   rw [add_more _ _ _ (by decide)] at hc1 hc2 hc3 hc4
   rw [Nat.add_zero] at hc0
   refine ⟨⟨n0, n1, s2.data.toList, s3.data.toList, la⟩, A', c', hat, hlc', hc0, hc1, hc2, hc3, hc4, ?_, ?_, ?_, hnil⟩
   ·simp [Lit.wf, IntKind.min, IntKind.max, IntKind.signed, IntKind.bits] at w0
    show -9223372036854775808 ≤ n0 ∧ n0 ≤ 9223372036854775807
    exact ⟨by omega, by omega⟩
   ·rw [hD]
    match ys, hyl, hy0, hy1, hy2, hy3, hy4 with
    | [z0, z1, z2, z3, z4], _, hy0, hy1, hy2, hy3, hy4 =>
     simp at hy0 hy1 hy2 hy3 hy4
     subst hy0; subst hy1; subst hy2; subst hy3; subst hy4
     simp [Rows.uptoBulk, Rows.uptoBulkAll]
     omega
   ·intro y hy
    rw [hD]
    have := hb2 y hy
    match ys, hyl, hy0, hy1, hy2, hy3, hy4 with
    | [z0, z1, z2, z3, z4], _, hy0, hy1, hy2, hy3, hy4 =>
     simp at hy0 hy1 hy2 hy3 hy4
     subst hy0; subst hy1; subst hy2; subst hy3; subst hy4
     simp [Rows.uptoBulk, Rows.uptoBulkAll]
     omega)
  simp only [Rows.uptoBulk] at hbulk
  have hone : ∀ k, k < len → Rows.uptoBulk (D k) ≤ 1048576 := fun k hk => by have := bulkAll_range D len k hk; omega
  have hcount := bulkAll_sum (fun _ : ItemD => 1) D l (fun i y hy => by obtain ⟨_, _, _, _, _, _, _, _, _, _, h, _⟩ := hp i y hy; omega)
  have htext := bulkAll_sum (fun x : ItemD => x.text.length) D l (fun i y hy => by obtain ⟨_, _, _, _, _, _, _, _, _, _, h, _⟩ := hp i y hy; omega)
  have e := sum_ones l
  rw [hl] at hcount htext
  have hl2 : l.length ≤ 1048576 := by omega
  have ht2 : textSum l ≤ 1048576 := by unfold textSum; omega
  refine ⟨some a, cap, l, by rw [hl], ?_, ⟨⟨by omega, fun k x hx => ?_⟩, by omega⟩, hl2, ht2, ?_⟩
  ·intro hpos
   have h0 : l[0]? = some (l[0]'hpos) := List.getElem?_eq_getElem hpos
   obtain ⟨_, _, _, _, hc0, _⟩ := hp 0 _ h0
   have hb := World.block_lt_of_cell? W _ hc0
   rw [block_of_add] at hb
   refine ⟨a, rfl, hb, fun k x hx => ?_⟩
   obtain ⟨A', c', k1, k2, k3, k4, k5, k6, k7, _⟩ := hp k x hx
   exact ⟨A', c', k1, k2, k3, k4, k5, k6, k7⟩
  ·obtain ⟨A', c', k1, k2, k3, k4, k5, k6, k7, k8, k9, k10⟩ := hp k x hx
   have hk := hone k (by rw [← hl]; exact (List.getElem?_eq_some_iff.1 hx).1)
   exact ⟨by omega, by omega, by omega, fun j y hy => by have := k10.1 y (List.mem_of_getElem? hy); omega, k8⟩
  ·intro ad had k x A2 c2 hx hcell hA2
   injection had with had
   subst had
   obtain ⟨A', c', k1, k2, k3, k4, k5, k6, k7, k8, k9, k10⟩ := hp k x hx
   rw [k7] at hcell
   injection hcell with hcell
   injection hcell with q1 _ q3
   rw [← q3]
   exact k10.2 (by rw [q1]; exact hA2)
end
section
open Go.RowKit Go.ChangeShapes Go.WideShapes Go.Deep
theorem wf_lit {n : Int} (h : (Lit.int .i64 n).wf = true) : wfI n := by
 simp [Lit.wf, IntKind.min, IntKind.max, IntKind.signed, IntKind.bits] at h
 exact ⟨by omega, by omega⟩
theorem open_ops {W : World} {H : Type} {enc : TypeId × Value → H} {v : Value} {d : DataW H} {p : List MemPlace} (hok : ∃ a n c, v = .slice a n c) (h : DataW.Trod enc Tryz.prog W 0 (fun _ => true) true 22 v d p) (hbulk : Rows.uptoBulk d ≤ 1048576) :
  ∃ (A : Option Addr) (c : Nat) (l : List OpD), v = .slice A l.length c ∧ OpsAt W W.heap.size A l ∧ SmallOps l ∧ True := by
 obtain ⟨va, vn, vc, rfl⟩ := hok
 obtain ⟨fuel, h⟩ := h
 rcases slice_structs Tryz.underlying22 Tryz.underlying36 (by kernel_rfl) (by kernel_rfl) h with ⟨e, e2⟩ | ⟨a, len, cap, D, rest, e, hlc, hcm, e2, hf⟩
 ·injection e with e _
  injection e with e1 e2' e3
  subst e1; subst e2'; subst e3
  exact ⟨none, 0, [], rfl, fun h => absurd h (by simp), ⟨by simp, by simp⟩, trivial⟩
 ·injection e with e _
  injection e with e1 e2' e3
  subst e1
  have e2'' := e2'.symm
  have e3'' := e3.symm
  subst e2''; subst e3''
  have e2 : d = .slice ((List.range len).map D) rest := e2
  subst e2
  simp only [Rows.uptoBulk] at hbulk
  have hone : ∀ k, k < len → Rows.uptoBulk (D k) ≤ 1048576 := fun k hk => by have := bulkAll_range D len k hk; omega
  obtain ⟨l, hl, hp⟩ := list_of (P := fun i (x : OpD) => (∃ (A' : Option Addr) (c' : Nat), ItemsAt W W.heap.size A' x.l ∧ x.l.length ≤ c' ∧ OpCells W a i x A' c') ∧ SmallOp x ∧ x.l.length ≤ 1048576 ∧ 1 ≤ Rows.uptoBulk (D i)) len (fun i hi => by
   obtain ⟨ys, n, hD, hyl, hj⟩ := hf i hi
   obtain ⟨v0, y0, hc0, hy0, ht0⟩ := hj 0 _ rfl
   obtain ⟨v1, y1, hc1, hy1, ht1⟩ := hj 1 _ rfl
   obtain ⟨v2, y2, hc2, hy2, ht2⟩ := hj 2 _ rfl
   obtain ⟨v3, y3, hc3, hy3, ht3⟩ := hj 3 _ rfl
   obtain ⟨v4, y4, hc4, hy4, ht4⟩ := hj 4 _ rfl
   obtain ⟨v5, y5, hc5, hy5, ht5⟩ := hj 5 _ rfl
   obtain ⟨v6, y6, hc6, hy6, ht6⟩ := hj 6 _ rfl
   obtain ⟨n0, e0, rfl, w0⟩ := DataW.trod_int Tryz.underlying3 ht0
   obtain ⟨n1, e1, rfl, w1⟩ := DataW.trod_int Tryz.underlying3 ht1
   obtain ⟨n2, e2, rfl, w2⟩ := DataW.trod_int Tryz.underlying3 ht2
   obtain ⟨n3, e3, rfl, w3⟩ := DataW.trod_int Tryz.underlying3 ht3
   obtain ⟨s4, e4, rfl, _⟩ := DataW.trod_string Tryz.underlying9 ht4
   obtain ⟨s5, e5, rfl, _⟩ := DataW.trod_string Tryz.underlying9 ht5
   have hb := hone i hi
   rw [hD] at hb
   have hbk : s4.size ≤ 1048576 ∧ s5.size ≤ 1048576 ∧ Rows.uptoBulk y6.1 ≤ 1048576 := by
    match ys, hyl, hy0, hy1, hy2, hy3, hy4, hy5, hy6 with
    | [z0, z1, z2, z3, z4, z5, z6], _, hy0, hy1, hy2, hy3, hy4, hy5, hy6 =>
     simp at hy0 hy1 hy2 hy3 hy4 hy5 hy6
     subst hy0; subst hy1; subst hy2; subst hy3; subst hy4; subst hy5; subst hy6
     simp [Rows.uptoBulk, Rows.uptoBulkAll] at hb
     have h4 : s4.data.toList.length = s4.size := by rw [Array.length_toList]; rfl
     have h5 : s5.data.toList.length = s5.size := by rw [Array.length_toList]; rfl
     omega
   have hsl : ∃ a n c, v6 = .slice a n c := by
    rcases slice_structs Tryz.underlying34 Tryz.underlying62 (by kernel_rfl) (by kernel_rfl) ht6 with ⟨e, _⟩ | ⟨a, len, cap, _, _, e, _⟩
    ·injection e with e _; exact ⟨_, _, _, e⟩
    ·injection e with e _; exact ⟨_, _, _, e⟩
   obtain ⟨va6, vn6, vc6, rfl⟩ := hsl
   obtain ⟨A', c', la, e6, hat, hsm, hln, _, _⟩ := open_items (v := .slice va6 vn6 vc6) (d := y6.1) (p := y6.2) ⟨_, _, _, rfl⟩ ⟨n, ht6⟩ hbk.2.2
   have hlc' : la.length ≤ c' := by
    rcases slice_structs Tryz.underlying34 Tryz.underlying62 (by kernel_rfl) (by kernel_rfl) ht6 with ⟨e, _⟩ | ⟨a, len, cap, _, _, e, h1, _⟩
    ·injection e with e _; rw [e6] at e; injection e with _ e _; omega
    ·injection e with e _; rw [e6] at e; injection e with _ e e'; omega
   injection e0 with e0 _; subst e0
   injection e1 with e1 _; subst e1
   injection e2 with e2 _; subst e2
   injection e3 with e3 _; subst e3
   injection e4 with e4 _; subst e4
   injection e5 with e5 _; subst e5
   rw [e6] at hc6
   rw [add_more _ _ _ (by decide)] at hc1 hc2 hc3 hc4 hc5 hc6
   rw [Nat.add_zero] at hc0
   have h4 : s4.data.toList.length = s4.size := by rw [Array.length_toList]; rfl
   have h5 : s5.data.toList.length = s5.size := by rw [Array.length_toList]; rfl
   refine ⟨⟨n0, n1, n2, n3, s4.data.toList, s5.data.toList, la⟩, ⟨A', c', hat, hlc', hc0, hc1, hc2, hc3, hc4, hc5, hc6⟩, ⟨⟨wf_lit w0, wf_lit w1, wf_lit w2, wf_lit w3⟩, ?_, ?_, hsm.1⟩, hln, ?_⟩
   ·show s4.data.toList.length ≤ 1000000000; omega
   ·show s5.data.toList.length ≤ 1000000000; omega
   ·rw [hD]; simp [Rows.uptoBulk])
  have hcount := bulkAll_sum (fun _ : OpD => 1) D l (fun i y hy => (hp i y hy).2.2.2)
  have e := sum_ones l
  rw [hl] at hcount
  refine ⟨some a, cap, l, by rw [hl], ?_, ⟨by omega, fun o ho => ?_⟩, trivial⟩
  ·intro hpos
   have h0 : l[0]? = some (l[0]'hpos) := List.getElem?_eq_getElem hpos
   obtain ⟨A', c', _, _, hc0⟩ := (hp 0 _ h0).1
   have hb := World.block_lt_of_cell? W _ hc0.1
   rw [block_of_add] at hb
   exact ⟨a, rfl, hb, fun k x hx => (hp k x hx).1⟩
  ·obtain ⟨k, hk⟩ := List.mem_iff_getElem?.1 ho
   exact ⟨(hp k o hk).2.1, (hp k o hk).2.2.1⟩
end
section
open Go.RowKit Go.ChangeShapes Go.WideShapes Go.Deep
theorem open_ints {W : World} {H : Type} {enc : TypeId × Value → H} {v : Value} {d : DataW H} {p : List MemPlace} (hok : ∃ a n c, v = .slice a n c) (h : DataW.Trod enc Tryz.prog W 0 (fun _ => true) true 43 v d p) (hbulk : Rows.uptoBulk d ≤ 1048576) :
  ∃ (A : Option Addr) (c : Nat) (l : List Int), v = .slice A l.length c ∧ IntsAt W W.heap.size A l ∧ (l.length ≤ 1048576 ∧ ∀ x ∈ l, wfI x) ∧ True := by
 obtain ⟨va, vn, vc, rfl⟩ := hok
 obtain ⟨fuel, h⟩ := h
 rcases open_slice1 Tryz.underlying43 (by kernel_rfl) h with ⟨e, e2⟩ | ⟨a, len, cap, m, n, V, D, Pl, e, _, hlc, _, hm, e2, each⟩
 ·injection e with e _
  injection e with e1 e2' e3
  subst e1; subst e2'; subst e3
  exact ⟨none, 0, [], rfl, fun h => absurd h (by simp), ⟨by simp, by simp⟩, trivial⟩
 ·injection e with e _
  injection e with e1 e2' e3
  subst e1
  have e2'' := e2'.symm
  have e3'' := e3.symm
  subst e2''; subst e3''
  injection e2 with e2 _
  subst e2
  simp only [Rows.uptoBulk] at hbulk
  have hmc : m = cap := by simpa using hm
  obtain ⟨l, hl, hp⟩ := list_of (P := fun i (x : Int) => W.cell? (a.add i) = some (.int .i64 x) ∧ wfI x ∧ 1 ≤ Rows.uptoBulk (D i)) len (fun i hi => by
   obtain ⟨hc, hr⟩ := each i (by omega)
   obtain ⟨x, e0, hD, w0⟩ := DataW.trod_int Tryz.underlying3 hr
   injection e0 with e0 _
   injection hD with hD _
   rw [e0] at hc
   exact ⟨x, hc, wf_lit w0, by rw [hD]; simp [Rows.uptoBulk]⟩)
  have hcount := bulkAll_sum (fun _ : Int => 1) D l (fun i y hy => (hp i y hy).2.2)
  have e := sum_ones l
  rw [hl] at hcount
  refine ⟨some a, cap, l, by rw [hl], ?_, ⟨by omega, fun x hx => ?_⟩, trivial⟩
  ·intro hpos
   have h0 : l[0]? = some (l[0]'hpos) := List.getElem?_eq_getElem hpos
   have hb := World.block_lt_of_cell? W _ (hp 0 _ h0).1
   rw [block_of_add] at hb
   exact ⟨a, rfl, hb, fun k x hx => (hp k x hx).1⟩
  ·obtain ⟨k, hk⟩ := List.mem_iff_getElem?.1 hx
   exact (hp k x hk).2.1
end
end Go.Proofs.YtmkgajdgnmolkaaGreat

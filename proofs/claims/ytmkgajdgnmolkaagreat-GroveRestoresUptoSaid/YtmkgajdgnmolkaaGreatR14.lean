/-
  Texts of this claim, joined (by a program of the claim's author): GRAt, GCntP, GShpP, GRPre, GRDo, GPl, GROr.
-/
import Derived.Test.YtmkgajdgnmolkaaGreatR11
import Derived.Test.YtmkgajdgnmolkaaGreatR13
import Derived.Test.YtmkgajdgnmolkaaGreatR9
import Derived.Test.YtmkgajdgnmolkaaGreatR1
namespace Go.Proofs.YtmkgajdgnmolkaaGreat
set_option maxRecDepth 100000
set_option maxHeartbeats 16000000
section
open Go.RowKit Go.Shelf
variable {X : Nat → Prop}
theorem set_modify {L : List RowD} {k : Nat} {i : Int} {r : ItemD} (h : L[k]? = some ⟨i, r⟩) (f : NodeD → NodeD) : setL L k f = L.modify k (fun r' => ⟨r'.id, (f r.node).at r.level⟩) := by
 unfold setL
 apply List.ext_getElem?
 intro j
 rw [List.getElem?_modify, List.getElem?_modify]
 by_cases hj : k = j
 ·subst hj
  rw [h]
  simp
 ·simp [hj]
theorem RSetText_any (L : List RowD) (A : Option Addr) (c : Nat) (next id : Int) (s : List UInt8) (w : World) (hT : TreeR X w A c L) (hs : SmallRows L) (hlen : L.length ≤ 100000) (hsl : s.length ≤ 1000000000) (hX : ∀ b, w.heap.size ≤ b → X b) :
  Calls Tryz.prog 69 #[.agg #[.slice A L.length c, .int .i64 next], .int .i64 id, .string ⟨s.toArray⟩] w (TPost X w (setTextL L next id s).1 next (setTextL L next id s).2.2.2) := by
 obtain ⟨v, hr⟩ : ∃ v, Hid (findI L id = v) := ⟨_, rfl⟩
 have HLEN := Lib.hid hlen
 have HXN := Lib.hid hX
 clear hX
 clear hlen
 obtain ⟨W2, hW2⟩ : ∃ W2, Hid (W2 = (w.alloc (.cells #[.slice A L.length c, .int .i64 next] 29)).alloc (.cells #[.slice none 0 0, .int .i64 0] 29)) := ⟨_, rfl⟩
 have HS := Lib.hid hs
 have hb2 : Below w.heap.size w W2 := by rw [hW2.out]; exact ((Below.refl _ w).alloc (Nat.le_refl _) _).alloc (by simp) _
 have hz2 : W2.heap.size = w.heap.size + 1 + 1 := by rw [hW2.out]; simp
 have hx2 : W2.heap[w.heap.size]? = some (.cells (treeV A L.length c next) 29 (0, 0)) := by
  rw [hW2.out]
  exact (Below.heap_alloc _ _ _ (by simp)).trans (heap_alloc_new w _)
 have hy2 : W2.heap[w.heap.size + 1]? = some (.cells zeroT 29 (0, 0)) := by
  rw [hW2.out]
  have := heap_alloc_new (w.alloc (.cells #[.slice A L.length c, .int .i64 next] 29)) (.cells #[.slice none 0 0, .int .i64 0] 29)
  simpa [zeroT] using this
 have HT2 := Lib.hid (hT.below hb2)
 have HT := Lib.hid hT
 have HB2 := Lib.hid hb2
 have HX2 := Lib.hid hx2
 have HY2 := Lib.hid hy2
 have HZ2 := Lib.hid hz2
 clear hs hb2 hx2 hy2 hz2 hT
 cases hf : findL L id with
 | none =>
  have hr1 : v = -1 := by rw [← hr.out]; unfold findI; rw [hf]
  have ha : setTextL L next id s = (L, next, 0, 60) := by unfold setTextL; rw [hf]
  rw [ha]
  clear ha hf
  subst hr1
  go_enter Tryz.func69, Tryz.ntmps69
  go_wp2_with fail
  rw [← hW2.out]
  refine (RFind_any L A c next id W2 HT2.out.1 HS.out (-1) hr).mono ?_
  rintro e3 w3 ⟨rfl, hb3⟩
  have hx3 := (hb3.block w.heap.size (by have := HZ2.out; omega)).trans HX2.out
  have HY3 : Hid (w3.heap[w.heap.size + 1]? = some (.cells zeroT 29 (0, 0))) := (hb3.block (w.heap.size + 1) (by have := HZ2.out; omega)).trans HY2.out
  have HT3 := Lib.hid (HT2.out.below hb3)
  have HB3 : Hid (Below w.heap.size w w3) := HB2.out.trans (hb3.mono HB2.out.size)
  have HZ3 : Hid (w.heap.size + 1 + 1 ≤ w3.heap.size) := by show _ ≤ _; have := hb3.size; have := HZ2.out; omega
  have HX3 := Lib.hid hx3
  skip
  clear hb3 hx3
  go_upto_region 3 with (fail)
  have e0 := cell_row HX3.out 0 _ rfl
  have e1 := cell_row HX3.out 1 _ rfl
  go_wp2_with (refine wpList_store_row rfl 29 (.tmp 6) (.tmp 16) rfl (w.heap.size + 1) (treeV A L.length c next) rfl rfl 29 zeroT HY3.out (by kernel_rfl) rfl (treeV_one _ _ _ _) ?_)
  try simp only [Exit.inBlock, Exit.then]
  refine bodyPost_ret (results_cellb Tryz.results69 _ _ (w.heap.size + 1) 29 (treeV A L.length c next) (0, 0) _ rfl (setRow_heap _ _ _ _ _ _ HY3.out) Tryz.underlying29 rfl (by kernel_rfl)) rfl ?_
  obtain ⟨q1, q2⟩ := HT3.out.laid HB3.out (g := w.heap.size + 1) (by omega) HY3.out (treeV A L.length c next)
  skip
  exact ⟨A, c, rfl, q1, q2⟩
 | some k =>
  have hr1 : v = (k : Int) := by rw [← hr.out]; unfold findI; rw [hf]
  have hk : k < L.length := find_lt hf
  subst hr1
  have k0 : (0 : Int) ≤ (k : Int) := by omega
  have HAD : Hid (∃ ad, A = some ad) := by
   obtain ⟨ad, hA, _⟩ := HT.out.1 (by omega)
   exact ⟨ad, hA⟩
  obtain ⟨⟨ri, r⟩, hrk⟩ : ∃ r, Hid (L[k]? = some r) := ⟨L[k], List.getElem?_eq_getElem _⟩
  have hf' : setTextL L next id s = if r.kind ≠ 2 then (L, next, 0, 68) else if charsE s ≠ 0 then (L, next, 0, charsE s) else (setL L k fun d => { d with text := s }, next, 0, 0) := by
   unfold setTextL
   rw [hf]
   simp only [hrk.out]
  obtain ⟨a, ha⟩ : ∃ a, Hid (a = setTextL L next id s) := ⟨_, rfl⟩
  rw [← ha.out]
  have HA := Lib.hid (ha.out.trans hf')
  clear hf hf' ha
  go_enter Tryz.func69, Tryz.ntmps69
  go_wp2_with fail
  rw [← hW2.out]
  refine (RFind_any L A c next id W2 HT2.out.1 HS.out (k : Int) hr).mono ?_
  rintro e3 w3 ⟨rfl, hb3⟩
  have hx3 := (hb3.block w.heap.size (by have := HZ2.out; omega)).trans HX2.out
  have HY3 : Hid (w3.heap[w.heap.size + 1]? = some (.cells zeroT 29 (0, 0))) := (hb3.block (w.heap.size + 1) (by have := HZ2.out; omega)).trans HY2.out
  have HT3 := Lib.hid (HT2.out.below hb3)
  have HB3 : Hid (Below w.heap.size w w3) := HB2.out.trans (hb3.mono HB2.out.size)
  have HZ3 : Hid (w.heap.size + 1 + 1 ≤ w3.heap.size) := by show _ ≤ _; have := hb3.size; have := HZ2.out; omega
  have HX3 := Lib.hid hx3
  skip
  clear hb3 hx3
  obtain ⟨ad, rfl⟩ := HAD.out
  -- the node's item, in a block of its own
  obtain ⟨_, Ax, cx, hat, hac, k0, k1, k2, k3, k4, k5⟩ := (show RowsAt X w3 w3.heap.size (some ad) L from HT3.out.1).row hrk.out
  unfold strV at k3 k4
  have e0 : w3.cell? ⟨w.heap.size, 0, none⟩ = some (.slice (some ad) L.length c) := cell_row HX3.out 0 _ rfl
  have e1 : w3.cell? ⟨w.heap.size, 1, none⟩ = some (.int .i64 next) := cell_row HX3.out 1 _ rfl
  have HAT := Lib.hid hat
  have HAC := Lib.hid hac
  clear hat hac
  have hk' : (k : Int) < (L.length : Int) := by omega
  obtain ⟨w4, hw4⟩ : ∃ w4, Hid (w4 = w3.alloc (.cells #[.int .i64 r.level, .int .i64 r.kind, .string ⟨r.name.toArray⟩, .string ⟨r.text.toArray⟩, .slice Ax r.attrs.length cx] 62)) := ⟨_, rfl⟩
  have hb34 : Below w3.heap.size w3 w4 := by rw [hw4.out]; exact (Below.refl _ w3).alloc (Nat.le_refl _) _
  have HI4 : Hid (w4.heap[w3.heap.size]? = some (.cells #[.int .i64 r.level, .int .i64 r.kind, .string ⟨r.name.toArray⟩, .string ⟨r.text.toArray⟩, .slice Ax r.attrs.length cx] 62 (0, 0))) := by show _ = _; rw [hw4.out]; exact heap_alloc_new w3 _
  have HB34 := Lib.hid hb34
  have HT4 := Lib.hid (HT3.out.below hb34)
  have HX4 : Hid (w4.heap[w.heap.size]? = some (.cells (treeV (some ad) L.length c next) 29 (0, 0))) := (hb34.block w.heap.size (by have := HZ3.out; omega)).trans HX3.out
  have HY4 : Hid (w4.heap[w.heap.size + 1]? = some (.cells zeroT 29 (0, 0))) := (hb34.block (w.heap.size + 1) (by have := HZ3.out; omega)).trans HY3.out
  have HB4 : Hid (Below w.heap.size w w4) := HB3.out.trans (hb34.mono HB3.out.size)
  have HZ4 : Hid (w3.heap.size + 1 ≤ w4.heap.size) := by show _ ≤ _; rw [hw4.out]; simp
  clear hb34
  go_upto_region 5 with (fail)
  rw [← hw4.out]
  clear e0 e1 k1 k2 k3 k4 k5
  have i1 := cell_row HI4.out 1 _ rfl
  have i3 := cell_row HI4.out 3 _ rfl
  have i4 := cell_row HI4.out 4 _ rfl
  obtain ⟨ce, hce⟩ : ∃ ce, Hid (charsE s = ce) := ⟨_, rfl⟩
  have HA2 := HA.out
  rw [hce.out] at HA2
  have HA := Lib.hid HA2
  clear HA2
  by_cases hkd : r.kind ≠ 2
  ·have HE : Hid (a = (L, next, 0, 68)) := HA.out.trans (if_pos hkd)
   have hkd' : (r.kind != 2) = true := by simpa using hkd
   clear hkd
   go_upto_region 6 with (fail)
   have e0 := cell_row HX4.out 0 _ rfl
   have e1 := cell_row HX4.out 1 _ rfl
   go_wp2_with (refine wpList_store_row rfl 29 (.tmp 6) (.tmp 26) rfl (w.heap.size + 1) (treeV (some ad) L.length c next) rfl rfl 29 zeroT HY4.out (by kernel_rfl) rfl (treeV_one _ _ _ _) ?_)
   try simp only [Exit.inBlock, Exit.then]
   refine bodyPost_ret (results_cellb Tryz.results69 _ _ (w.heap.size + 1) 29 (treeV (some ad) L.length c next) (0, 0) _ rfl (setRow_heap _ _ _ _ _ _ HY4.out) Tryz.underlying29 rfl (by kernel_rfl)) rfl ?_
   obtain ⟨q1, q2⟩ := HT4.out.laid HB4.out (g := w.heap.size + 1) (by omega) HY4.out (treeV (some ad) L.length c next)
   rw [HE.out]
   exact ⟨(some ad), c, rfl, q1, q2⟩
  have HA := Lib.hid (HA.out.trans (if_neg hkd))
  have hkd' : (r.kind != 2) = false := by simpa using hkd
  clear hkd
  go_wp2_with fail
  refine (Rtext_any s w4 hsl ce hce).mono ?_
  rintro e5 w5 ⟨rfl, hb5⟩
  have HX5 : Hid (w5.heap[w.heap.size]? = some (.cells (treeV (some ad) L.length c next) 29 (0, 0))) := (hb5.block w.heap.size (by have := HZ3.out; have := HZ4.out; omega)).trans HX4.out
  have HY5 : Hid (w5.heap[w.heap.size + 1]? = some (.cells zeroT 29 (0, 0))) := (hb5.block (w.heap.size + 1) (by have := HZ3.out; have := HZ4.out; omega)).trans HY4.out
  have HI5 : Hid (w5.heap[w3.heap.size]? = some (.cells #[.int .i64 r.level, .int .i64 r.kind, .string ⟨r.name.toArray⟩, .string ⟨r.text.toArray⟩, .slice Ax r.attrs.length cx] 62 (0, 0))) := (hb5.block w3.heap.size (by have := HZ4.out; omega)).trans HI4.out
  have HT5 := Lib.hid (HT4.out.below hb5)
  have HB5 : Hid (Below w.heap.size w w5) := HB4.out.trans (hb5.mono HB4.out.size)
  have HB35 : Hid (Below w3.heap.size w3 w5) := HB34.out.trans (hb5.mono (by have := HZ4.out; omega))
  have HZ5 : Hid (w3.heap.size + 1 ≤ w5.heap.size) := Nat.le_trans HZ4.out hb5.size
  clear hb5
  by_cases hc0 : ce ≠ 0
  ·have HE : Hid (a = (L, next, 0, ce)) := HA.out.trans (if_pos hc0)
   have hc0' : (ce != 0) = true := by simpa using hc0
   clear hc0
   go_upto_region 9 with (fail)
   have e0 := cell_row HX5.out 0 _ rfl
   have e1 := cell_row HX5.out 1 _ rfl
   go_wp2_with (refine wpList_store_row rfl 29 (.tmp 6) (.tmp 31) rfl (w.heap.size + 1) (treeV (some ad) L.length c next) rfl rfl 29 zeroT HY5.out (by kernel_rfl) rfl (treeV_one _ _ _ _) ?_)
   try simp only [Exit.inBlock, Exit.then]
   refine bodyPost_ret (results_cellb Tryz.results69 _ _ (w.heap.size + 1) 29 (treeV (some ad) L.length c next) (0, 0) _ rfl (setRow_heap _ _ _ _ _ _ HY5.out) Tryz.underlying29 rfl (by kernel_rfl)) rfl ?_
   obtain ⟨q1, q2⟩ := HT5.out.laid HB5.out (g := w.heap.size + 1) (by omega) HY5.out (treeV (some ad) L.length c next)
   rw [HE.out]
   exact ⟨(some ad), c, rfl, q1, q2⟩
  have HA := Lib.hid (HA.out.trans (if_neg hc0))
  have hc0' : (ce != 0) = false := by simpa using hc0
  clear hc0
  have i3 := cell_row HI5.out 3 _ rfl
  have f3 := free_row HI5.out 3
  go_upto_region 11 with (fail)
  clear i3 f3
  obtain ⟨w6, hw6⟩ : ∃ w6, Hid (w5.setCell ⟨w3.heap.size, 3, none⟩ (.string ⟨s.toArray⟩) = w6) := ⟨_, rfl⟩
  have HI6 : Hid (w6.heap[w3.heap.size]? = some (.cells #[.int .i64 r.level, .int .i64 r.kind, .string ⟨r.name.toArray⟩, .string ⟨s.toArray⟩, .slice Ax r.attrs.length cx] 62 (0, 0))) := by show _ = _; rw [← hw6.out]; exact Lib.heap_setCell_same (i := 3) HI5.out _
  have HB36 : Hid (Below w3.heap.size w3 w6) := by show Below _ _ _; rw [← hw6.out]; exact HB35.out.setCell (Nat.le_refl _) _
  have HB6 : Hid (Below w.heap.size w w6) := HB3.out.trans (HB36.out.mono HB3.out.size)
  have HT6 := Lib.hid (HT3.out.below HB36.out)
  have HX6 : Hid (w6.heap[w.heap.size]? = some (.cells (treeV (some ad) L.length c next) 29 (0, 0))) := (HB36.out.block w.heap.size (by have := HZ3.out; omega)).trans HX3.out
  have HY6 : Hid (w6.heap[w.heap.size + 1]? = some (.cells zeroT 29 (0, 0))) := (HB36.out.block (w.heap.size + 1) (by have := HZ3.out; omega)).trans HY3.out
  have HZ6 : Hid (w.heap.size + 1 + 1 ≤ w6.heap.size) := Nat.le_trans HZ3.out HB36.out.size
  rw [hw6.out]
  have e0 : w6.cell? ⟨w.heap.size, 0, none⟩ = some (.slice (some ad) L.length c) := cell_row HX6.out 0 _ rfl
  have e1 : w6.cell? ⟨w.heap.size, 1, none⟩ = some (.int .i64 next) := cell_row HX6.out 1 _ rfl
  have i0 := cell_row HI6.out 0 _ rfl
  have i1 := cell_row HI6.out 1 _ rfl
  have i2 := cell_row HI6.out 2 _ rfl
  have i3 := cell_row HI6.out 3 _ rfl
  have i4 := cell_row HI6.out 4 _ rfl
  go_wp2_with fail
  refine (Rset_g L ad c next k { r with text := s } Ax cx w6 HT6.out.1 HLEN.out HT6.out.2 hk ((HAT.out.below HB36.out).more HB36.out.size) HAC.out).mono ?_
  rintro e9 w9 ⟨A9, c9, S, rfl, hS, hown, hat, hb9⟩
  have hT9 := TreeR.of hown hat hb9 hS (fun b hb => HXN.out b (Nat.le_trans HB6.out.size hb))
  have hsl := congrArg List.length hS
  rw [List.length_map] at hsl
  obtain ⟨L', hL'⟩ : ∃ L', Hid (L.modify k (fun r' => ⟨r'.id, { r with text := s }⟩) = L') := ⟨_, rfl⟩
  rw [hL'.out] at hsl hT9
  have HT9 := Lib.hid hT9
  have HY9 : Hid (w9.heap[w.heap.size + 1]? = some (.cells zeroT 29 (0, 0))) := (hb9.block (w.heap.size + 1) (by have := HZ6.out; omega)).trans HY6.out
  have HB9 : Hid (Below w.heap.size w w9) := HB6.out.trans (hb9.mono HB6.out.size)
  rw [hsl]
  clear hown hat hb9 hS e0 e1 hT9 hsl i0 i1 i2 i3 i4
  go_wp2_with (refine wpList_store_row rfl 29 (.tmp 6) (.tmp 38) rfl (w.heap.size + 1) (treeV A9 L'.length c9 next) rfl rfl 29 zeroT HY9.out (by kernel_rfl) rfl (treeV_one _ _ _ _) ?_)
  try simp only [Exit.inBlock, Exit.then]
  refine bodyPost_ret (results_cellb Tryz.results69 _ _ (w.heap.size + 1) 29 (treeV A9 L'.length c9 next) (0, 0) _ rfl (setRow_heap _ _ _ _ _ _ HY9.out) Tryz.underlying29 rfl (by kernel_rfl)) rfl ?_
  obtain ⟨q1, q2⟩ := HT9.out.laid HB9.out (g := w.heap.size + 1) (by omega) HY9.out (treeV A9 L'.length c9 next)
  have HE : a = (L', next, 0, 0) := by
   rw [HA.out, set_modify hrk.out]
   exact congrArg (fun z : List RowD => ((z, next, 0, 0) : Ans)) hL'.out
  rw [HE]
  exact ⟨A9, c9, rfl, q1, q2⟩
theorem RDelAttr_any (L : List RowD) (A : Option Addr) (c : Nat) (next id : Int) (s : List UInt8) (w : World) (hT : TreeR X w A c L) (hs : SmallRows L) (hlen : L.length ≤ 100000) (hX : ∀ b, w.heap.size ≤ b → X b) :
  Calls Tryz.prog 68 #[.agg #[.slice A L.length c, .int .i64 next], .int .i64 id, .string ⟨s.toArray⟩] w (TPost X w (delAttrL L next id s).1 next (delAttrL L next id s).2.2.2) := by
 obtain ⟨v, hr⟩ : ∃ v, Hid (findI L id = v) := ⟨_, rfl⟩
 have HLEN := Lib.hid hlen
 have HXN := Lib.hid hX
 clear hX
 clear hlen
 obtain ⟨W2, hW2⟩ : ∃ W2, Hid (W2 = (w.alloc (.cells #[.slice A L.length c, .int .i64 next] 29)).alloc (.cells #[.slice none 0 0, .int .i64 0] 29)) := ⟨_, rfl⟩
 have HS := Lib.hid hs
 have hb2 : Below w.heap.size w W2 := by rw [hW2.out]; exact ((Below.refl _ w).alloc (Nat.le_refl _) _).alloc (by simp) _
 have hz2 : W2.heap.size = w.heap.size + 1 + 1 := by rw [hW2.out]; simp
 have hx2 : W2.heap[w.heap.size]? = some (.cells (treeV A L.length c next) 29 (0, 0)) := by
  rw [hW2.out]
  exact (Below.heap_alloc _ _ _ (by simp)).trans (heap_alloc_new w _)
 have hy2 : W2.heap[w.heap.size + 1]? = some (.cells zeroT 29 (0, 0)) := by
  rw [hW2.out]
  have := heap_alloc_new (w.alloc (.cells #[.slice A L.length c, .int .i64 next] 29)) (.cells #[.slice none 0 0, .int .i64 0] 29)
  simpa [zeroT] using this
 have HT2 := Lib.hid (hT.below hb2)
 have HT := Lib.hid hT
 have HB2 := Lib.hid hb2
 have HX2 := Lib.hid hx2
 have HY2 := Lib.hid hy2
 have HZ2 := Lib.hid hz2
 clear hs hb2 hx2 hy2 hz2 hT
 cases hf : findL L id with
 | none =>
  have hr1 : v = -1 := by rw [← hr.out]; unfold findI; rw [hf]
  have ha : delAttrL L next id s = (L, next, 0, 60) := by unfold delAttrL; rw [hf]
  rw [ha]
  clear ha hf
  subst hr1
  go_enter Tryz.func68, Tryz.ntmps68
  go_wp2_with fail
  rw [← hW2.out]
  refine (RFind_any L A c next id W2 HT2.out.1 HS.out (-1) hr).mono ?_
  rintro e3 w3 ⟨rfl, hb3⟩
  have hx3 := (hb3.block w.heap.size (by have := HZ2.out; omega)).trans HX2.out
  have HY3 : Hid (w3.heap[w.heap.size + 1]? = some (.cells zeroT 29 (0, 0))) := (hb3.block (w.heap.size + 1) (by have := HZ2.out; omega)).trans HY2.out
  have HT3 := Lib.hid (HT2.out.below hb3)
  have HB3 : Hid (Below w.heap.size w w3) := HB2.out.trans (hb3.mono HB2.out.size)
  have HZ3 : Hid (w.heap.size + 1 + 1 ≤ w3.heap.size) := by show _ ≤ _; have := hb3.size; have := HZ2.out; omega
  have HX3 := Lib.hid hx3
  skip
  clear hb3 hx3
  go_upto_region 3 with (fail)
  have e0 := cell_row HX3.out 0 _ rfl
  have e1 := cell_row HX3.out 1 _ rfl
  go_wp2_with (refine wpList_store_row rfl 29 (.tmp 6) (.tmp 16) rfl (w.heap.size + 1) (treeV A L.length c next) rfl rfl 29 zeroT HY3.out (by kernel_rfl) rfl (treeV_one _ _ _ _) ?_)
  try simp only [Exit.inBlock, Exit.then]
  refine bodyPost_ret (results_cellb Tryz.results68 _ _ (w.heap.size + 1) 29 (treeV A L.length c next) (0, 0) _ rfl (setRow_heap _ _ _ _ _ _ HY3.out) Tryz.underlying29 rfl (by kernel_rfl)) rfl ?_
  obtain ⟨q1, q2⟩ := HT3.out.laid HB3.out (g := w.heap.size + 1) (by omega) HY3.out (treeV A L.length c next)
  skip
  exact ⟨A, c, rfl, q1, q2⟩
 | some k =>
  have hr1 : v = (k : Int) := by rw [← hr.out]; unfold findI; rw [hf]
  have hk : k < L.length := find_lt hf
  subst hr1
  have k0 : (0 : Int) ≤ (k : Int) := by omega
  have HAD : Hid (∃ ad, A = some ad) := by
   obtain ⟨ad, hA, _⟩ := HT.out.1 (by omega)
   exact ⟨ad, hA⟩
  obtain ⟨⟨ri, r⟩, hrk⟩ : ∃ r, Hid (L[k]? = some r) := ⟨L[k], List.getElem?_eq_getElem _⟩
  obtain ⟨M, hM⟩ : ∃ M, Hid (lessA r.attrs s = M) := ⟨_, rfl⟩
  have hf' : delAttrL L next id s = if r.kind ≠ 1 then (L, next, 0, 68) else if M.length = r.attrs.length then (L, next, 0, 63) else (setL L k fun d => { d with attrs := lessA d.attrs s }, next, 0, 0) := by
   unfold delAttrL
   rw [hf]
   simp only [hrk.out, hM.out]
  have HRA : Hid (r.attrs.length ≤ 1000000) := (HS.out.2 ⟨ri, r⟩ (List.mem_of_getElem? hrk.out)).2.1
  obtain ⟨a, ha⟩ : ∃ a, Hid (a = delAttrL L next id s) := ⟨_, rfl⟩
  rw [← ha.out]
  have HA := Lib.hid (ha.out.trans hf')
  clear hf hf' ha
  go_enter Tryz.func68, Tryz.ntmps68
  go_wp2_with fail
  rw [← hW2.out]
  refine (RFind_any L A c next id W2 HT2.out.1 HS.out (k : Int) hr).mono ?_
  rintro e3 w3 ⟨rfl, hb3⟩
  have hx3 := (hb3.block w.heap.size (by have := HZ2.out; omega)).trans HX2.out
  have HY3 : Hid (w3.heap[w.heap.size + 1]? = some (.cells zeroT 29 (0, 0))) := (hb3.block (w.heap.size + 1) (by have := HZ2.out; omega)).trans HY2.out
  have HT3 := Lib.hid (HT2.out.below hb3)
  have HB3 : Hid (Below w.heap.size w w3) := HB2.out.trans (hb3.mono HB2.out.size)
  have HZ3 : Hid (w.heap.size + 1 + 1 ≤ w3.heap.size) := by show _ ≤ _; have := hb3.size; have := HZ2.out; omega
  have HX3 := Lib.hid hx3
  skip
  clear hb3 hx3
  obtain ⟨ad, rfl⟩ := HAD.out
  -- the node's item, in a block of its own
  obtain ⟨_, Ax, cx, hat, hac, k0, k1, k2, k3, k4, k5⟩ := (show RowsAt X w3 w3.heap.size (some ad) L from HT3.out.1).row hrk.out
  unfold strV at k3 k4
  have e0 : w3.cell? ⟨w.heap.size, 0, none⟩ = some (.slice (some ad) L.length c) := cell_row HX3.out 0 _ rfl
  have e1 : w3.cell? ⟨w.heap.size, 1, none⟩ = some (.int .i64 next) := cell_row HX3.out 1 _ rfl
  have HAT := Lib.hid hat
  have HAC := Lib.hid hac
  clear hat hac
  have hk' : (k : Int) < (L.length : Int) := by omega
  obtain ⟨w4, hw4⟩ : ∃ w4, Hid (w4 = w3.alloc (.cells #[.int .i64 r.level, .int .i64 r.kind, .string ⟨r.name.toArray⟩, .string ⟨r.text.toArray⟩, .slice Ax r.attrs.length cx] 62)) := ⟨_, rfl⟩
  have hb34 : Below w3.heap.size w3 w4 := by rw [hw4.out]; exact (Below.refl _ w3).alloc (Nat.le_refl _) _
  have HI4 : Hid (w4.heap[w3.heap.size]? = some (.cells #[.int .i64 r.level, .int .i64 r.kind, .string ⟨r.name.toArray⟩, .string ⟨r.text.toArray⟩, .slice Ax r.attrs.length cx] 62 (0, 0))) := by show _ = _; rw [hw4.out]; exact heap_alloc_new w3 _
  have HB34 := Lib.hid hb34
  have HT4 := Lib.hid (HT3.out.below hb34)
  have HX4 : Hid (w4.heap[w.heap.size]? = some (.cells (treeV (some ad) L.length c next) 29 (0, 0))) := (hb34.block w.heap.size (by have := HZ3.out; omega)).trans HX3.out
  have HY4 : Hid (w4.heap[w.heap.size + 1]? = some (.cells zeroT 29 (0, 0))) := (hb34.block (w.heap.size + 1) (by have := HZ3.out; omega)).trans HY3.out
  have HB4 : Hid (Below w.heap.size w w4) := HB3.out.trans (hb34.mono HB3.out.size)
  have HZ4 : Hid (w3.heap.size + 1 ≤ w4.heap.size) := by show _ ≤ _; rw [hw4.out]; simp
  clear hb34
  go_upto_region 5 with (fail)
  rw [← hw4.out]
  clear e0 e1 k1 k2 k3 k4 k5
  have i1 := cell_row HI4.out 1 _ rfl
  have i3 := cell_row HI4.out 3 _ rfl
  have i4 := cell_row HI4.out 4 _ rfl
  by_cases hkd : r.kind ≠ 1
  ·have HE : Hid (a = (L, next, 0, 68)) := HA.out.trans (if_pos hkd)
   have hkd' : (r.kind != 1) = true := by simpa using hkd
   clear hkd
   go_upto_region 6 with (fail)
   have e0 := cell_row HX4.out 0 _ rfl
   have e1 := cell_row HX4.out 1 _ rfl
   go_wp2_with (refine wpList_store_row rfl 29 (.tmp 6) (.tmp 26) rfl (w.heap.size + 1) (treeV (some ad) L.length c next) rfl rfl 29 zeroT HY4.out (by kernel_rfl) rfl (treeV_one _ _ _ _) ?_)
   try simp only [Exit.inBlock, Exit.then]
   refine bodyPost_ret (results_cellb Tryz.results68 _ _ (w.heap.size + 1) 29 (treeV (some ad) L.length c next) (0, 0) _ rfl (setRow_heap _ _ _ _ _ _ HY4.out) Tryz.underlying29 rfl (by kernel_rfl)) rfl ?_
   obtain ⟨q1, q2⟩ := HT4.out.laid HB4.out (g := w.heap.size + 1) (by omega) HY4.out (treeV (some ad) L.length c next)
   rw [HE.out]
   exact ⟨(some ad), c, rfl, q1, q2⟩
  have HA := Lib.hid (HA.out.trans (if_neg hkd))
  have hkd' : (r.kind != 1) = false := by simpa using hkd
  clear hkd
  have HAT4 : Hid (AttrsAt w4 w4.heap.size Ax r.attrs) := (HAT.out.1.below HB34.out).more HB34.out.size
  go_wp2_with fail
  refine (Rless_any r.attrs Ax cx s w4 HAT4.out HRA.out M hM).mono ?_
  rintro e5 w5 ⟨hb5, A5, c5, rfl, hown5⟩
  have HOWN5 := Lib.hid hown5
  clear hown5
  have HX5 : Hid (w5.heap[w.heap.size]? = some (.cells (treeV (some ad) L.length c next) 29 (0, 0))) := (hb5.block w.heap.size (by have := HZ3.out; have := HZ4.out; omega)).trans HX4.out
  have HY5 : Hid (w5.heap[w.heap.size + 1]? = some (.cells zeroT 29 (0, 0))) := (hb5.block (w.heap.size + 1) (by have := HZ3.out; have := HZ4.out; omega)).trans HY4.out
  have HI5 : Hid (w5.heap[w3.heap.size]? = some (.cells #[.int .i64 r.level, .int .i64 r.kind, .string ⟨r.name.toArray⟩, .string ⟨r.text.toArray⟩, .slice Ax r.attrs.length cx] 62 (0, 0))) := (hb5.block w3.heap.size (by have := HZ4.out; omega)).trans HI4.out
  have HT5 := Lib.hid (HT4.out.below hb5)
  have HB5 : Hid (Below w.heap.size w w5) := HB4.out.trans (hb5.mono HB4.out.size)
  have HB35 : Hid (Below w3.heap.size w3 w5) := HB34.out.trans (hb5.mono (by have := HZ4.out; omega))
  have HZ5 : Hid (w3.heap.size + 1 ≤ w5.heap.size) := Nat.le_trans HZ4.out hb5.size
  clear hb5
  have i4 := cell_row HI5.out 4 _ rfl
  have hmi0 : (0 : Int) ≤ (M.length : Int) := by omega
  by_cases hc0 : M.length = r.attrs.length
  ·have HE : Hid (a = (L, next, 0, 63)) := HA.out.trans (if_pos hc0)
   have hc0' : ((M.length : Int) == (r.attrs.length : Int)) = true := by simp [hc0]
   clear hc0
   go_upto_region 9 with (fail)
   have e0 := cell_row HX5.out 0 _ rfl
   have e1 := cell_row HX5.out 1 _ rfl
   go_wp2_with (refine wpList_store_row rfl 29 (.tmp 6) (.tmp 37) rfl (w.heap.size + 1) (treeV (some ad) L.length c next) rfl rfl 29 zeroT HY5.out (by kernel_rfl) rfl (treeV_one _ _ _ _) ?_)
   try simp only [Exit.inBlock, Exit.then]
   refine bodyPost_ret (results_cellb Tryz.results68 _ _ (w.heap.size + 1) 29 (treeV (some ad) L.length c next) (0, 0) _ rfl (setRow_heap _ _ _ _ _ _ HY5.out) Tryz.underlying29 rfl (by kernel_rfl)) rfl ?_
   obtain ⟨q1, q2⟩ := HT5.out.laid HB5.out (g := w.heap.size + 1) (by omega) HY5.out (treeV (some ad) L.length c next)
   rw [HE.out]
   exact ⟨(some ad), c, rfl, q1, q2⟩
  have HA := Lib.hid (HA.out.trans (if_neg hc0))
  have hc0' : ((M.length : Int) == (r.attrs.length : Int)) = false := by simp; omega
  clear hc0
  have f4 := free_row HI5.out 4
  go_upto_region 11 with (fail)
  clear i4 f4
  obtain ⟨w6, hw6⟩ : ∃ w6, Hid (w5.setCell ⟨w3.heap.size, 4, none⟩ (.slice A5 M.length c5) = w6) := ⟨_, rfl⟩
  have HI6 : Hid (w6.heap[w3.heap.size]? = some (.cells #[.int .i64 r.level, .int .i64 r.kind, .string ⟨r.name.toArray⟩, .string ⟨r.text.toArray⟩, .slice A5 M.length c5] 62 (0, 0))) := by show _ = _; rw [← hw6.out]; exact Lib.heap_setCell_same (i := 4) HI5.out _
  have HB36 : Hid (Below w3.heap.size w3 w6) := by show Below _ _ _; rw [← hw6.out]; exact HB35.out.setCell (Nat.le_refl _) _
  have HB6 : Hid (Below w.heap.size w w6) := HB3.out.trans (HB36.out.mono HB3.out.size)
  have HT6 := Lib.hid (HT3.out.below HB36.out)
  have HX6 : Hid (w6.heap[w.heap.size]? = some (.cells (treeV (some ad) L.length c next) 29 (0, 0))) := (HB36.out.block w.heap.size (by have := HZ3.out; omega)).trans HX3.out
  have HY6 : Hid (w6.heap[w.heap.size + 1]? = some (.cells zeroT 29 (0, 0))) := (HB36.out.block (w.heap.size + 1) (by have := HZ3.out; omega)).trans HY3.out
  have HZ6 : Hid (w.heap.size + 1 + 1 ≤ w6.heap.size) := Nat.le_trans HZ3.out HB36.out.size
  rw [hw6.out]
  have HOWN6 : Hid (AttrsOwn w6 w4.heap.size A5 c5 M) := by
   show AttrsOwn _ _ _ _ _
   rw [← hw6.out]
   refine row_block HOWN5.out fun b hb => Below.heap_setCell _ _ _ _ (fun e => ?_)
   have e' : b = w3.heap.size := e
   have := (HOWN5.out.lt b hb).1
   have := HZ4.out
   omega
  rw [← hM.out] at HOWN6
  have HI6' := HI6.out
  rw [← hM.out] at HI6'
  have HI6 := Lib.hid HI6'
  clear HI6'
  have e0 : w6.cell? ⟨w.heap.size, 0, none⟩ = some (.slice (some ad) L.length c) := cell_row HX6.out 0 _ rfl
  have e1 : w6.cell? ⟨w.heap.size, 1, none⟩ = some (.int .i64 next) := cell_row HX6.out 1 _ rfl
  have i0 := cell_row HI6.out 0 _ rfl
  have i1 := cell_row HI6.out 1 _ rfl
  have i2 := cell_row HI6.out 2 _ rfl
  have i3 := cell_row HI6.out 3 _ rfl
  have i4 := cell_row HI6.out 4 _ rfl
  go_wp2_with fail
  refine (Rset_g L ad c next k { r with attrs := lessA r.attrs s } A5 c5 w6 HT6.out.1 HLEN.out HT6.out.2 hk (own_x HOWN6.out fun b hb => HXN.out b (Nat.le_trans (Nat.le_trans HB3.out.size HB34.out.size) hb)) HOWN6.out.cap).mono ?_
  rintro e9 w9 ⟨A9, c9, S, rfl, hS, hown, hat, hb9⟩
  have hT9 := TreeR.of hown hat hb9 hS (fun b hb => HXN.out b (Nat.le_trans HB6.out.size hb))
  have hsl := congrArg List.length hS
  rw [List.length_map] at hsl
  obtain ⟨L', hL'⟩ : ∃ L', Hid (L.modify k (fun r' => ⟨r'.id, { r with attrs := lessA r.attrs s }⟩) = L') := ⟨_, rfl⟩
  rw [hL'.out] at hsl hT9
  have HT9 := Lib.hid hT9
  have HY9 : Hid (w9.heap[w.heap.size + 1]? = some (.cells zeroT 29 (0, 0))) := (hb9.block (w.heap.size + 1) (by have := HZ6.out; omega)).trans HY6.out
  have HB9 : Hid (Below w.heap.size w w9) := HB6.out.trans (hb9.mono HB6.out.size)
  rw [hsl]
  clear hown hat hb9 hS e0 e1 hT9 hsl i0 i1 i2 i3 i4
  go_wp2_with (refine wpList_store_row rfl 29 (.tmp 6) (.tmp 43) rfl (w.heap.size + 1) (treeV A9 L'.length c9 next) rfl rfl 29 zeroT HY9.out (by kernel_rfl) rfl (treeV_one _ _ _ _) ?_)
  try simp only [Exit.inBlock, Exit.then]
  refine bodyPost_ret (results_cellb Tryz.results68 _ _ (w.heap.size + 1) 29 (treeV A9 L'.length c9 next) (0, 0) _ rfl (setRow_heap _ _ _ _ _ _ HY9.out) Tryz.underlying29 rfl (by kernel_rfl)) rfl ?_
  obtain ⟨q1, q2⟩ := HT9.out.laid HB9.out (g := w.heap.size + 1) (by omega) HY9.out (treeV A9 L'.length c9 next)
  have HE : a = (L', next, 0, 0) := by
   rw [HA.out, set_modify hrk.out]
   exact congrArg (fun z : List RowD => ((z, next, 0, 0) : Ans)) hL'.out
  rw [HE]
  exact ⟨A9, c9, rfl, q1, q2⟩
theorem RSetAttr_any (L : List RowD) (A : Option Addr) (c : Nat) (next id : Int) (nm vl : List UInt8) (w : World) (hT : TreeR X w A c L) (hs : SmallRows L) (hlen : L.length ≤ 100000) (hnm : nm.length ≤ 1000000000) (hvl : vl.length ≤ 1000000000) (hX : ∀ b, w.heap.size ≤ b → X b) :
  Calls Tryz.prog 67 #[.agg #[.slice A L.length c, .int .i64 next], .int .i64 id, .agg #[.string ⟨nm.toArray⟩, .string ⟨vl.toArray⟩]] w (TPost X w (setAttrL L next id nm vl).1 next (setAttrL L next id nm vl).2.2.2) := by
 obtain ⟨v, hr⟩ : ∃ v, Hid (findI L id = v) := ⟨_, rfl⟩
 have HLEN := Lib.hid hlen
 have HXN := Lib.hid hX
 clear hX
 clear hlen
 obtain ⟨W2, hW2⟩ : ∃ W2, Hid (W2 = ((w.alloc (.cells #[.slice A L.length c, .int .i64 next] 29)).alloc (.cells #[.string ⟨nm.toArray⟩, .string ⟨vl.toArray⟩] 66)).alloc (.cells #[.slice none 0 0, .int .i64 0] 29)) := ⟨_, rfl⟩
 have HQ2 : Hid (W2.heap[w.heap.size + 1]? = some (.cells #[.string ⟨nm.toArray⟩, .string ⟨vl.toArray⟩] 66 (0, 0))) := by
  show _ = _
  rw [hW2.out]
  refine (Below.heap_alloc _ _ _ (by simp)).trans ?_
  have := heap_alloc_new (w.alloc (.cells #[.slice A L.length c, .int .i64 next] 29)) (.cells #[.string ⟨nm.toArray⟩, .string ⟨vl.toArray⟩] 66)
  simpa using this
 have HS := Lib.hid hs
 have hb2 : Below w.heap.size w W2 := by rw [hW2.out]; exact (((Below.refl _ w).alloc (Nat.le_refl _) _).alloc (by simp) _).alloc (by simp <;> omega) _
 have hz2 : W2.heap.size = w.heap.size + 2 + 1 := by rw [hW2.out]; simp
 have hx2 : W2.heap[w.heap.size]? = some (.cells (treeV A L.length c next) 29 (0, 0)) := by
  rw [hW2.out]
  exact (Below.heap_alloc _ _ _ (by simp <;> omega)).trans ((Below.heap_alloc _ _ _ (by simp)).trans (heap_alloc_new w _))
 have hy2 : W2.heap[w.heap.size + 2]? = some (.cells zeroT 29 (0, 0)) := by
  rw [hW2.out]
  have := heap_alloc_new ((w.alloc (.cells #[.slice A L.length c, .int .i64 next] 29)).alloc (.cells #[.string ⟨nm.toArray⟩, .string ⟨vl.toArray⟩] 66)) (.cells #[.slice none 0 0, .int .i64 0] 29)
  simpa [zeroT] using this
 have HT2 := Lib.hid (hT.below hb2)
 have HT := Lib.hid hT
 have HB2 := Lib.hid hb2
 have HX2 := Lib.hid hx2
 have HY2 := Lib.hid hy2
 have HZ2 := Lib.hid hz2
 clear hs hb2 hx2 hy2 hz2 hT
 cases hf : findL L id with
 | none =>
  have hr1 : v = -1 := by rw [← hr.out]; unfold findI; rw [hf]
  have ha : setAttrL L next id nm vl = (L, next, 0, 60) := by unfold setAttrL; rw [hf]
  rw [ha]
  clear ha hf
  subst hr1
  go_enter Tryz.func67, Tryz.ntmps67
  go_wp2_with fail
  rw [← hW2.out]
  refine (RFind_any L A c next id W2 HT2.out.1 HS.out (-1) hr).mono ?_
  rintro e3 w3 ⟨rfl, hb3⟩
  have hx3 := (hb3.block w.heap.size (by have := HZ2.out; omega)).trans HX2.out
  have HY3 : Hid (w3.heap[w.heap.size + 2]? = some (.cells zeroT 29 (0, 0))) := (hb3.block (w.heap.size + 2) (by have := HZ2.out; omega)).trans HY2.out
  have HT3 := Lib.hid (HT2.out.below hb3)
  have HB3 : Hid (Below w.heap.size w w3) := HB2.out.trans (hb3.mono HB2.out.size)
  have HZ3 : Hid (w.heap.size + 2 + 1 ≤ w3.heap.size) := by show _ ≤ _; have := hb3.size; have := HZ2.out; omega
  have HX3 := Lib.hid hx3
  skip
  clear hb3 hx3
  go_upto_region 3 with (fail)
  have e0 := cell_row HX3.out 0 _ rfl
  have e1 := cell_row HX3.out 1 _ rfl
  go_wp2_with (refine wpList_store_row rfl 29 (.tmp 6) (.tmp 16) rfl (w.heap.size + 2) (treeV A L.length c next) rfl rfl 29 zeroT HY3.out (by kernel_rfl) rfl (treeV_one _ _ _ _) ?_)
  try simp only [Exit.inBlock, Exit.then]
  refine bodyPost_ret (results_cellb Tryz.results67 _ _ (w.heap.size + 2) 29 (treeV A L.length c next) (0, 0) _ rfl (setRow_heap _ _ _ _ _ _ HY3.out) Tryz.underlying29 rfl (by kernel_rfl)) rfl ?_
  obtain ⟨q1, q2⟩ := HT3.out.laid HB3.out (g := w.heap.size + 2) (by omega) HY3.out (treeV A L.length c next)
  skip
  exact ⟨A, c, rfl, q1, q2⟩
 | some k =>
  have hr1 : v = (k : Int) := by rw [← hr.out]; unfold findI; rw [hf]
  have hk : k < L.length := find_lt hf
  subst hr1
  have k0 : (0 : Int) ≤ (k : Int) := by omega
  have HAD : Hid (∃ ad, A = some ad) := by
   obtain ⟨ad, hA, _⟩ := HT.out.1 (by omega)
   exact ⟨ad, hA⟩
  obtain ⟨⟨ri, r⟩, hrk⟩ : ∃ r, Hid (L[k]? = some r) := ⟨L[k], List.getElem?_eq_getElem _⟩
  obtain ⟨M, hM⟩ : ∃ M, Hid (withA r.attrs ⟨nm, vl⟩ = M) := ⟨_, rfl⟩
  obtain ⟨ce, hce⟩ : ∃ ce, Hid (charsE vl = ce) := ⟨_, rfl⟩
  obtain ⟨bn, hbn⟩ : ∃ bn, Hid (nameL nm = bn) := ⟨_, rfl⟩
  have hf' : setAttrL L next id nm vl = if r.kind ≠ 1 then (L, next, 0, 68) else if bn = false then (L, next, 0, 63) else if ce ≠ 0 then (L, next, 0, ce) else if 20 < M.length then (L, next, 0, 67) else (setL L k fun d => { d with attrs := withA d.attrs ⟨nm, vl⟩ }, next, 0, 0) := by
   unfold setAttrL
   rw [hf]
   simp only [hrk.out, hM.out, hce.out, hbn.out]
  have HRA : Hid (r.attrs.length ≤ 1000000) := (HS.out.2 ⟨ri, r⟩ (List.mem_of_getElem? hrk.out)).2.1
  obtain ⟨a, ha⟩ : ∃ a, Hid (a = setAttrL L next id nm vl) := ⟨_, rfl⟩
  rw [← ha.out]
  have HA := Lib.hid (ha.out.trans hf')
  clear hf hf' ha
  go_enter Tryz.func67, Tryz.ntmps67
  go_wp2_with fail
  rw [← hW2.out]
  refine (RFind_any L A c next id W2 HT2.out.1 HS.out (k : Int) hr).mono ?_
  rintro e3 w3 ⟨rfl, hb3⟩
  have hx3 := (hb3.block w.heap.size (by have := HZ2.out; omega)).trans HX2.out
  have HY3 : Hid (w3.heap[w.heap.size + 2]? = some (.cells zeroT 29 (0, 0))) := (hb3.block (w.heap.size + 2) (by have := HZ2.out; omega)).trans HY2.out
  have HT3 := Lib.hid (HT2.out.below hb3)
  have HB3 : Hid (Below w.heap.size w w3) := HB2.out.trans (hb3.mono HB2.out.size)
  have HZ3 : Hid (w.heap.size + 2 + 1 ≤ w3.heap.size) := by show _ ≤ _; have := hb3.size; have := HZ2.out; omega
  have HX3 := Lib.hid hx3
  have HQ3 : Hid (w3.heap[w.heap.size + 1]? = some (.cells #[.string ⟨nm.toArray⟩, .string ⟨vl.toArray⟩] 66 (0, 0))) := (hb3.block (w.heap.size + 1) (by have := HZ2.out; omega)).trans HQ2.out
  clear hb3 hx3
  obtain ⟨ad, rfl⟩ := HAD.out
  -- the node's item, in a block of its own
  obtain ⟨_, Ax, cx, hat, hac, k0, k1, k2, k3, k4, k5⟩ := (show RowsAt X w3 w3.heap.size (some ad) L from HT3.out.1).row hrk.out
  unfold strV at k3 k4
  have e0 : w3.cell? ⟨w.heap.size, 0, none⟩ = some (.slice (some ad) L.length c) := cell_row HX3.out 0 _ rfl
  have e1 : w3.cell? ⟨w.heap.size, 1, none⟩ = some (.int .i64 next) := cell_row HX3.out 1 _ rfl
  have HAT := Lib.hid hat
  have HAC := Lib.hid hac
  clear hat hac
  have hk' : (k : Int) < (L.length : Int) := by omega
  obtain ⟨w4, hw4⟩ : ∃ w4, Hid (w4 = w3.alloc (.cells #[.int .i64 r.level, .int .i64 r.kind, .string ⟨r.name.toArray⟩, .string ⟨r.text.toArray⟩, .slice Ax r.attrs.length cx] 62)) := ⟨_, rfl⟩
  have hb34 : Below w3.heap.size w3 w4 := by rw [hw4.out]; exact (Below.refl _ w3).alloc (Nat.le_refl _) _
  have HI4 : Hid (w4.heap[w3.heap.size]? = some (.cells #[.int .i64 r.level, .int .i64 r.kind, .string ⟨r.name.toArray⟩, .string ⟨r.text.toArray⟩, .slice Ax r.attrs.length cx] 62 (0, 0))) := by show _ = _; rw [hw4.out]; exact heap_alloc_new w3 _
  have HB34 := Lib.hid hb34
  have HT4 := Lib.hid (HT3.out.below hb34)
  have HX4 : Hid (w4.heap[w.heap.size]? = some (.cells (treeV (some ad) L.length c next) 29 (0, 0))) := (hb34.block w.heap.size (by have := HZ3.out; omega)).trans HX3.out
  have HY4 : Hid (w4.heap[w.heap.size + 2]? = some (.cells zeroT 29 (0, 0))) := (hb34.block (w.heap.size + 2) (by have := HZ3.out; omega)).trans HY3.out
  have HB4 : Hid (Below w.heap.size w w4) := HB3.out.trans (hb34.mono HB3.out.size)
  have HZ4 : Hid (w3.heap.size + 1 ≤ w4.heap.size) := by show _ ≤ _; rw [hw4.out]; simp
  clear hb34
  go_upto_region 5 with (fail)
  rw [← hw4.out]
  clear e0 e1 k1 k2 k3 k4 k5
  have i1 := cell_row HI4.out 1 _ rfl
  have i3 := cell_row HI4.out 3 _ rfl
  have i4 := cell_row HI4.out 4 _ rfl
  by_cases hkd : r.kind ≠ 1
  ·have HE : Hid (a = (L, next, 0, 68)) := HA.out.trans (if_pos hkd)
   have hkd' : (r.kind != 1) = true := by simpa using hkd
   clear hkd
   go_upto_region 6 with (fail)
   have e0 := cell_row HX4.out 0 _ rfl
   have e1 := cell_row HX4.out 1 _ rfl
   go_wp2_with (refine wpList_store_row rfl 29 (.tmp 6) (.tmp 26) rfl (w.heap.size + 2) (treeV (some ad) L.length c next) rfl rfl 29 zeroT HY4.out (by kernel_rfl) rfl (treeV_one _ _ _ _) ?_)
   try simp only [Exit.inBlock, Exit.then]
   refine bodyPost_ret (results_cellb Tryz.results67 _ _ (w.heap.size + 2) 29 (treeV (some ad) L.length c next) (0, 0) _ rfl (setRow_heap _ _ _ _ _ _ HY4.out) Tryz.underlying29 rfl (by kernel_rfl)) rfl ?_
   obtain ⟨q1, q2⟩ := HT4.out.laid HB4.out (g := w.heap.size + 2) (by omega) HY4.out (treeV (some ad) L.length c next)
   rw [HE.out]
   exact ⟨(some ad), c, rfl, q1, q2⟩
  have HA := Lib.hid (HA.out.trans (if_neg hkd))
  have hkd' : (r.kind != 1) = false := by simpa using hkd
  clear hkd
  have HQ : Hid (∀ W : World, Below w3.heap.size w3 W → W.heap[w.heap.size + 1]? = some (.cells #[.string ⟨nm.toArray⟩, .string ⟨vl.toArray⟩] 66 (0, 0))) := fun W hb => (hb.block (w.heap.size + 1) (by have := HZ3.out; omega)).trans HQ3.out
  have m0 : w4.cell? ⟨w.heap.size + 1, 0, none⟩ = some (.string ⟨nm.toArray⟩) := cell_row (HQ.out w4 HB34.out) 0 _ rfl
  cases bn with
  | false =>
   have HE : Hid (a = (L, next, 0, 63)) := HA.out.trans (if_pos rfl)
   go_wp2_with fail
   refine (RName_any ⟨nm.toArray⟩ w4 (by show nm.toArray.size ≤ 1000000000; simpa using hnm) false (by show nameL nm = false; exact hbn.out)).mono ?_
   rintro e5 w5 ⟨rfl, hb5⟩
   have HX5 : Hid (w5.heap[w.heap.size]? = some (.cells (treeV (some ad) L.length c next) 29 (0, 0))) := (hb5.block w.heap.size (by have := HZ3.out; have := HZ4.out; omega)).trans HX4.out
   have HY5 : Hid (w5.heap[w.heap.size + 2]? = some (.cells zeroT 29 (0, 0))) := (hb5.block (w.heap.size + 2) (by have := HZ3.out; have := HZ4.out; omega)).trans HY4.out
   have HI5 : Hid (w5.heap[w3.heap.size]? = some (.cells #[.int .i64 r.level, .int .i64 r.kind, .string ⟨r.name.toArray⟩, .string ⟨r.text.toArray⟩, .slice Ax r.attrs.length cx] 62 (0, 0))) := (hb5.block w3.heap.size (by have := HZ4.out; omega)).trans HI4.out
   have HT5 := Lib.hid (HT4.out.below hb5)
   have HB5 : Hid (Below w.heap.size w w5) := HB4.out.trans (hb5.mono HB4.out.size)
   have HB35 : Hid (Below w3.heap.size w3 w5) := HB34.out.trans (hb5.mono (by have := HZ4.out; omega))
   have HZ5 : Hid (w3.heap.size + 1 ≤ w5.heap.size) := Nat.le_trans HZ4.out hb5.size
   clear hb5
   clear m0 i1 i3 i4
   go_upto_region 8 with (fail)
   have e0 := cell_row HX5.out 0 _ rfl
   have e1 := cell_row HX5.out 1 _ rfl
   go_wp2_with (refine wpList_store_row rfl 29 (.tmp 6) (.tmp 31) rfl (w.heap.size + 2) (treeV (some ad) L.length c next) rfl rfl 29 zeroT HY5.out (by kernel_rfl) rfl (treeV_one _ _ _ _) ?_)
   try simp only [Exit.inBlock, Exit.then]
   refine bodyPost_ret (results_cellb Tryz.results67 _ _ (w.heap.size + 2) 29 (treeV (some ad) L.length c next) (0, 0) _ rfl (setRow_heap _ _ _ _ _ _ HY5.out) Tryz.underlying29 rfl (by kernel_rfl)) rfl ?_
   obtain ⟨q1, q2⟩ := HT5.out.laid HB5.out (g := w.heap.size + 2) (by omega) HY5.out (treeV (some ad) L.length c next)
   rw [HE.out]
   exact ⟨(some ad), c, rfl, q1, q2⟩
  | true =>
   have HA := Lib.hid (HA.out.trans (if_neg (by decide)))
   go_wp2_with fail
   refine (RName_any ⟨nm.toArray⟩ w4 (by show nm.toArray.size ≤ 1000000000; simpa using hnm) true (by show nameL nm = true; exact hbn.out)).mono ?_
   rintro e5 w5 ⟨rfl, hb5⟩
   have HX5 : Hid (w5.heap[w.heap.size]? = some (.cells (treeV (some ad) L.length c next) 29 (0, 0))) := (hb5.block w.heap.size (by have := HZ3.out; have := HZ4.out; omega)).trans HX4.out
   have HY5 : Hid (w5.heap[w.heap.size + 2]? = some (.cells zeroT 29 (0, 0))) := (hb5.block (w.heap.size + 2) (by have := HZ3.out; have := HZ4.out; omega)).trans HY4.out
   have HI5 : Hid (w5.heap[w3.heap.size]? = some (.cells #[.int .i64 r.level, .int .i64 r.kind, .string ⟨r.name.toArray⟩, .string ⟨r.text.toArray⟩, .slice Ax r.attrs.length cx] 62 (0, 0))) := (hb5.block w3.heap.size (by have := HZ4.out; omega)).trans HI4.out
   have HT5 := Lib.hid (HT4.out.below hb5)
   have HB5 : Hid (Below w.heap.size w w5) := HB4.out.trans (hb5.mono HB4.out.size)
   have HB35 : Hid (Below w3.heap.size w3 w5) := HB34.out.trans (hb5.mono (by have := HZ4.out; omega))
   have HZ5 : Hid (w3.heap.size + 1 ≤ w5.heap.size) := Nat.le_trans HZ4.out hb5.size
   clear hb5
   clear m0 i1 i3 i4
   have m1 : w5.cell? ⟨w.heap.size + 1, 1, none⟩ = some (.string ⟨vl.toArray⟩) := cell_row (HQ.out w5 HB35.out) 1 _ rfl
   go_wp2_with fail
   refine (Rtext_any vl w5 hvl ce hce).mono ?_
   rintro e6 w6 ⟨rfl, hb6⟩
   have HX6 : Hid (w6.heap[w.heap.size]? = some (.cells (treeV (some ad) L.length c next) 29 (0, 0))) := (hb6.block w.heap.size (by have := HZ3.out; have := HZ5.out; omega)).trans HX5.out
   have HY6 : Hid (w6.heap[w.heap.size + 2]? = some (.cells zeroT 29 (0, 0))) := (hb6.block (w.heap.size + 2) (by have := HZ3.out; have := HZ5.out; omega)).trans HY5.out
   have HI6 : Hid (w6.heap[w3.heap.size]? = some (.cells #[.int .i64 r.level, .int .i64 r.kind, .string ⟨r.name.toArray⟩, .string ⟨r.text.toArray⟩, .slice Ax r.attrs.length cx] 62 (0, 0))) := (hb6.block w3.heap.size (by have := HZ5.out; omega)).trans HI5.out
   have HT6 := Lib.hid (HT5.out.below hb6)
   have HB6 : Hid (Below w.heap.size w w6) := HB5.out.trans (hb6.mono HB5.out.size)
   have HB36 : Hid (Below w3.heap.size w3 w6) := HB35.out.trans (hb6.mono (by have := HZ5.out; omega))
   have HZ6 : Hid (w3.heap.size + 1 ≤ w6.heap.size) := Nat.le_trans HZ5.out hb6.size
   clear hb6
   clear m1
   by_cases hc0 : ce ≠ 0
   ·have HE : Hid (a = (L, next, 0, ce)) := HA.out.trans (if_pos hc0)
    have hc0' : (ce != 0) = true := by simpa using hc0
    clear hc0
    go_upto_region 11 with (fail)
    have e0 := cell_row HX6.out 0 _ rfl
    have e1 := cell_row HX6.out 1 _ rfl
    go_wp2_with (refine wpList_store_row rfl 29 (.tmp 6) (.tmp 37) rfl (w.heap.size + 2) (treeV (some ad) L.length c next) rfl rfl 29 zeroT HY6.out (by kernel_rfl) rfl (treeV_one _ _ _ _) ?_)
    try simp only [Exit.inBlock, Exit.then]
    refine bodyPost_ret (results_cellb Tryz.results67 _ _ (w.heap.size + 2) 29 (treeV (some ad) L.length c next) (0, 0) _ rfl (setRow_heap _ _ _ _ _ _ HY6.out) Tryz.underlying29 rfl (by kernel_rfl)) rfl ?_
    obtain ⟨q1, q2⟩ := HT6.out.laid HB6.out (g := w.heap.size + 2) (by omega) HY6.out (treeV (some ad) L.length c next)
    rw [HE.out]
    exact ⟨(some ad), c, rfl, q1, q2⟩
   have HA := Lib.hid (HA.out.trans (if_neg hc0))
   have hc0' : (ce != 0) = false := by simpa using hc0
   clear hc0
   have HAT6 : Hid (AttrsAt w6 w6.heap.size Ax r.attrs) := (HAT.out.1.below HB36.out).more HB36.out.size
   have m0 : w6.cell? ⟨w.heap.size + 1, 0, none⟩ = some (.string ⟨nm.toArray⟩) := cell_row (HQ.out w6 HB36.out) 0 _ rfl
   have m1 : w6.cell? ⟨w.heap.size + 1, 1, none⟩ = some (.string ⟨vl.toArray⟩) := cell_row (HQ.out w6 HB36.out) 1 _ rfl
   have i4 := cell_row HI6.out 4 _ rfl
   go_wp2_with fail
   refine (Rwith_any r.attrs Ax cx ⟨nm, vl⟩ w6 HAT6.out HRA.out M hM).mono ?_
   rintro e7 w7 ⟨hb7, A5, c5, rfl, hown7⟩
   have HOWN7 := Lib.hid hown7
   clear hown7
   have HX7 : Hid (w7.heap[w.heap.size]? = some (.cells (treeV (some ad) L.length c next) 29 (0, 0))) := (hb7.block w.heap.size (by have := HZ3.out; have := HZ6.out; omega)).trans HX6.out
   have HY7 : Hid (w7.heap[w.heap.size + 2]? = some (.cells zeroT 29 (0, 0))) := (hb7.block (w.heap.size + 2) (by have := HZ3.out; have := HZ6.out; omega)).trans HY6.out
   have HI7 : Hid (w7.heap[w3.heap.size]? = some (.cells #[.int .i64 r.level, .int .i64 r.kind, .string ⟨r.name.toArray⟩, .string ⟨r.text.toArray⟩, .slice Ax r.attrs.length cx] 62 (0, 0))) := (hb7.block w3.heap.size (by have := HZ6.out; omega)).trans HI6.out
   have HT7 := Lib.hid (HT6.out.below hb7)
   have HB7 : Hid (Below w.heap.size w w7) := HB6.out.trans (hb7.mono HB6.out.size)
   have HB37 : Hid (Below w3.heap.size w3 w7) := HB36.out.trans (hb7.mono (by have := HZ6.out; omega))
   have HZ7 : Hid (w3.heap.size + 1 ≤ w7.heap.size) := Nat.le_trans HZ6.out hb7.size
   clear hb7
   clear m0 m1 i4
   have i4 := cell_row HI7.out 4 _ rfl
   have f4 := free_row HI7.out 4
   go_upto_region 13 with (fail)
   clear i4 f4
   obtain ⟨w8, hw8⟩ : ∃ w8, Hid (w7.setCell ⟨w3.heap.size, 4, none⟩ (.slice A5 M.length c5) = w8) := ⟨_, rfl⟩
   have HI8 : Hid (w8.heap[w3.heap.size]? = some (.cells #[.int .i64 r.level, .int .i64 r.kind, .string ⟨r.name.toArray⟩, .string ⟨r.text.toArray⟩, .slice A5 M.length c5] 62 (0, 0))) := by show _ = _; rw [← hw8.out]; exact Lib.heap_setCell_same (i := 4) HI7.out _
   have HB38 : Hid (Below w3.heap.size w3 w8) := by show Below _ _ _; rw [← hw8.out]; exact HB37.out.setCell (Nat.le_refl _) _
   have HB8 : Hid (Below w.heap.size w w8) := HB3.out.trans (HB38.out.mono HB3.out.size)
   have HT8 := Lib.hid (HT3.out.below HB38.out)
   have HX8 : Hid (w8.heap[w.heap.size]? = some (.cells (treeV (some ad) L.length c next) 29 (0, 0))) := (HB38.out.block w.heap.size (by have := HZ3.out; omega)).trans HX3.out
   have HY8 : Hid (w8.heap[w.heap.size + 2]? = some (.cells zeroT 29 (0, 0))) := (HB38.out.block (w.heap.size + 2) (by have := HZ3.out; omega)).trans HY3.out
   have HZ8 : Hid (w.heap.size + 2 + 1 ≤ w8.heap.size) := Nat.le_trans HZ3.out HB38.out.size
   rw [hw8.out]
   have i4 := cell_row HI8.out 4 _ rfl
   have hmi0 : (0 : Int) ≤ (M.length : Int) := by omega
   by_cases hm20 : 20 < M.length
   ·have HE : Hid (a = (L, next, 0, 67)) := HA.out.trans (if_pos hm20)
    have hm20' : (20 : Int) < (M.length : Int) := by omega
    go_upto_region 14 with (fail)
    have e0 := cell_row HX8.out 0 _ rfl
    have e1 := cell_row HX8.out 1 _ rfl
    go_wp2_with (refine wpList_store_row rfl 29 (.tmp 6) (.tmp 48) rfl (w.heap.size + 2) (treeV (some ad) L.length c next) rfl rfl 29 zeroT HY8.out (by kernel_rfl) rfl (treeV_one _ _ _ _) ?_)
    try simp only [Exit.inBlock, Exit.then]
    refine bodyPost_ret (results_cellb Tryz.results67 _ _ (w.heap.size + 2) 29 (treeV (some ad) L.length c next) (0, 0) _ rfl (setRow_heap _ _ _ _ _ _ HY8.out) Tryz.underlying29 rfl (by kernel_rfl)) rfl ?_
    obtain ⟨q1, q2⟩ := HT8.out.laid HB8.out (g := w.heap.size + 2) (by omega) HY8.out (treeV (some ad) L.length c next)
    rw [HE.out]
    exact ⟨(some ad), c, rfl, q1, q2⟩
   have HA := Lib.hid (HA.out.trans (if_neg hm20))
   have hm20' : (M.length : Int) ≤ 20 := by omega
   go_upto_region 15 with (fail)
   clear i4 hm20 hm20'
   have HOWN8 : Hid (AttrsOwn w8 w6.heap.size A5 c5 M) := by
    show AttrsOwn _ _ _ _ _
    rw [← hw8.out]
    refine row_block HOWN7.out fun b hb => Below.heap_setCell _ _ _ _ (fun e => ?_)
    have e' : b = w3.heap.size := e
    have := (HOWN7.out.lt b hb).1
    have := HZ6.out
    omega
   rw [← hM.out] at HOWN8
   have HI8' := HI8.out
   rw [← hM.out] at HI8'
   have HI8 := Lib.hid HI8'
   clear HI8'
   have HZ8' : Hid (w.heap.size + 2 + 1 ≤ w8.heap.size) := HZ8
   have e0 : w8.cell? ⟨w.heap.size, 0, none⟩ = some (.slice (some ad) L.length c) := cell_row HX8.out 0 _ rfl
   have e1 : w8.cell? ⟨w.heap.size, 1, none⟩ = some (.int .i64 next) := cell_row HX8.out 1 _ rfl
   have i0 := cell_row HI8.out 0 _ rfl
   have i1 := cell_row HI8.out 1 _ rfl
   have i2 := cell_row HI8.out 2 _ rfl
   have i3 := cell_row HI8.out 3 _ rfl
   have i4 := cell_row HI8.out 4 _ rfl
   go_wp2_with fail
   refine (Rset_g L ad c next k { r with attrs := withA r.attrs ⟨nm, vl⟩ } A5 c5 w8 HT8.out.1 HLEN.out HT8.out.2 hk (own_x HOWN8.out fun b hb => HXN.out b (Nat.le_trans (Nat.le_trans HB3.out.size HB36.out.size) hb)) HOWN8.out.cap).mono ?_
   rintro e9 w9 ⟨A9, c9, S, rfl, hS, hown, hat, hb9⟩
   have hT9 := TreeR.of hown hat hb9 hS (fun b hb => HXN.out b (Nat.le_trans HB8.out.size hb))
   have hsl := congrArg List.length hS
   rw [List.length_map] at hsl
   obtain ⟨L', hL'⟩ : ∃ L', Hid (L.modify k (fun r' => ⟨r'.id, { r with attrs := withA r.attrs ⟨nm, vl⟩ }⟩) = L') := ⟨_, rfl⟩
   rw [hL'.out] at hsl hT9
   have HT9 := Lib.hid hT9
   have HY9 : Hid (w9.heap[w.heap.size + 2]? = some (.cells zeroT 29 (0, 0))) := (hb9.block (w.heap.size + 2) (by have := HZ8.out; omega)).trans HY8.out
   have HB9 : Hid (Below w.heap.size w w9) := HB8.out.trans (hb9.mono HB8.out.size)
   rw [hsl]
   clear hown hat hb9 hS e0 e1 hT9 hsl i0 i1 i2 i3 i4
   go_wp2_with (refine wpList_store_row rfl 29 (.tmp 6) (.tmp 52) rfl (w.heap.size + 2) (treeV A9 L'.length c9 next) rfl rfl 29 zeroT HY9.out (by kernel_rfl) rfl (treeV_one _ _ _ _) ?_)
   try simp only [Exit.inBlock, Exit.then]
   refine bodyPost_ret (results_cellb Tryz.results67 _ _ (w.heap.size + 2) 29 (treeV A9 L'.length c9 next) (0, 0) _ rfl (setRow_heap _ _ _ _ _ _ HY9.out) Tryz.underlying29 rfl (by kernel_rfl)) rfl ?_
   obtain ⟨q1, q2⟩ := HT9.out.laid HB9.out (g := w.heap.size + 2) (by omega) HY9.out (treeV A9 L'.length c9 next)
   have HE : a = (L', next, 0, 0) := by
    rw [HA.out, set_modify hrk.out]
    exact congrArg (fun z : List RowD => ((z, next, 0, 0) : Ans)) hL'.out
   rw [HE]
   exact ⟨A9, c9, rfl, q1, q2⟩
end
section
open Go.RowKit Go.Shelf
def kl (g : Int → Option Ent) (x : Int) : Nat := match g x with
 | some e => e.kids.length
 | none => 0
def kidSum (g : Int → Option Ent) (l : List Int) : Nat := (l.map (kl g)).sum
section
variable {M : Nat → Prop} {t : Nat} {f : Fo} {next : Int} {w w' : World}
end
end
section
open Go.RowKit Go.Shelf
theorem name_len {x : List UInt8} (h : nameL x = true) : x.length ≤ 60 := by
 unfold nameL at h
 split at h
 ·simp only [Bool.and_eq_true, decide_eq_true_eq] at h
  exact h.1
 ·cases h
theorem chars_len {x : List UInt8} (h : charsE x = 0) : x.length ≤ 1500 := by
 unfold charsE at h
 split at h
 ·cases h
 ·split at h
  ·cases h
  ·omega
theorem parts_fit {x : ItemD} (h : partsE x = 0) (hl : 0 ≤ x.level ∧ x.level < 40) : SmallItem x := by
 have hk : x.kind = 1 ∨ x.kind = 2 := by
  unfold partsE at h
  split at h
  ·rename_i h1; exact .inr h1.1
  ·split at h
   ·cases h
   ·rename_i h1
    left
    exact Decidable.byContradiction fun h2 => h1 (.inl h2)
 rcases hk with hk | hk
 ·obtain ⟨p1, p2, p3, p4, p5, p6⟩ := (parts_elem hk).1 h
  refine ⟨by have := name_len p2; omega, by rw [p1]; simp, by omega, fun k a ha => ?_, by omega, by omega⟩
  have hm := List.mem_of_getElem? ha
  exact ⟨by have := name_len (p4 a hm); omega, by have := chars_len (p6 a hm); omega⟩
 ·obtain ⟨p1, p2, p3⟩ := (parts_text hk).1 h
  refine ⟨by rw [p1]; simp, by have := chars_len p3; omega, by rw [p2]; simp, fun k a ha => ?_, by omega, by omega⟩
  rw [p2] at ha; simp at ha
section
variable {M : Nat → Prop} {t : Nat} {f : Fo} {next : Int} {w w' : World}
def ParK (f : Fo) (e : Ent) (id : Int) (K : List Int) : Prop := (e.par = 0 ∧ id = rootF f ∧ K = []) ∨ (e.par ≠ 0 ∧ id ≠ rootF f ∧ ∃ pe, f.ent 0 e.par = some pe ∧ K = pe.kids ∧ K.count id = 1)
end
end
section
theorem InvF.lv {f : Fo} {next : Int} (h : InvF f next) : ∀ r ∈ f.flat 0, -1000 ≤ r.x.level ∧ r.x.level ≤ 1000 := fun r hr => by
 have h1 := (h.ok r hr).1
 have h2 := Fo.flat_ge f 0 r hr
 omega
theorem InvF.rows {f : Fo} {next : Int} (h : InvF f next) : SmallRows (f.flat 0) := by
 refine ⟨by rw [Fo.flat_len]; have := h.cnt; omega, fun r hr => ?_⟩
 obtain ⟨h1, h2⟩ := h.ok r hr
 have h3 := Fo.flat_ge f 0 r hr
 have h5 := parts_small h2
 obtain ⟨q1, q2, q3, _, _⟩ := parts_fit h2 ⟨h3, h1⟩
 exact ⟨by omega, by omega, q1, q2⟩
theorem InvF.len {f : Fo} {next : Int} (h : InvF f next) : (f.flat 0).length ≤ 1000 := by rw [Fo.flat_len]; exact h.cnt
theorem steps_lv : ∀ (l : List ItemD) (n : Int), Steps l → (∀ x ∈ l.head?, x.level ≤ n) → ∀ z ∈ l, z.level ≤ n + l.length
 | [], _, _, _, z, hz => by cases hz
 | a :: l, n, h, h', z, hz => by
  have ha := h' a (by simp)
  rcases List.mem_cons.1 hz with rfl | hz
  ·simp; omega
  ·have h2 := steps_lv l (n + 1) h.tail (fun b hb => by
    have h3 := Steps.head h b hb
    unfold stepOk at h3
    split at h3 <;> omega) z hz
   simp; omega
theorem forest_lv {l : List ItemD} (hl : l.length ≤ 100000) (h : (forestL l).2 = 0) : ∀ x ∈ l, -1000000 ≤ x.level ∧ x.level ≤ 1000000 := fun z hz => by
 obtain ⟨x, r, rfl, h0, h1, h2, _⟩ := forest_ok l (forestL l).1 (by rw [← h])
 have h3 := steps_lv (x :: r) 0 h1 (fun b hb => by simp at hb; subst hb; omega) z hz
 have h4 := (h2 z hz).1
 omega
theorem check_lv {l : List ItemD} (h : (checkL l).2 = 0) : ∀ x ∈ l, -1000000 ≤ x.level ∧ x.level ≤ 1000000 := fun z hz => by
 obtain ⟨x, r, rfl, h0, _, _, h1, h2, _⟩ := (check_ok l).1 h
 have h3 := (h2 z hz).1
 rcases List.mem_cons.1 hz with rfl | h
 ·omega
 ·have := h1 z h; omega
theorem delete_form (L : List RowD) (next id : Int) : (deleteL L next id).2.1 = next ∧ (deleteL L next id).2.2.1 = 0 := by
 unfold deleteL
 repeat' split
 all_goals exact ⟨rfl, rfl⟩
theorem move_form (L : List RowD) (next id to pl : Int) : (moveL L next id to pl).2.1 = next ∧ (moveL L next id to pl).2.2.1 = 0 := by
 unfold moveL
 repeat' split
 all_goals first | exact ⟨rfl, rfl⟩ | (dsimp only; split <;> exact ⟨rfl, rfl⟩)
theorem attr_form (L : List RowD) (next id : Int) (a b : List UInt8) : (setAttrL L next id a b).2.1 = next ∧ (setAttrL L next id a b).2.2.1 = 0 := by
 unfold setAttrL
 repeat' split
 all_goals exact ⟨rfl, rfl⟩
theorem del_form (L : List RowD) (next id : Int) (a : List UInt8) : (delAttrL L next id a).2.1 = next ∧ (delAttrL L next id a).2.2.1 = 0 := by
 unfold delAttrL
 repeat' split
 all_goals exact ⟨rfl, rfl⟩
theorem text_form (L : List RowD) (next id : Int) (a : List UInt8) : (setTextL L next id a).2.1 = next ∧ (setTextL L next id a).2.2.1 = 0 := by
 unfold setTextL
 repeat' split
 all_goals exact ⟨rfl, rfl⟩
end
section
open Go.RowKit Go.Shelf
variable {X : Nat → Prop}
theorem RDo_any (L : List RowD) (A : Option Addr) (c : Nat) (next : Int) (o : OpD) (Ao : Option Addr) (co N : Nat) (w : World) (hT : TreeR X w A c L) (hs : SmallRows L) (hlen : L.length ≤ 100000) (hlv : ∀ r ∈ L, -1000 ≤ r.x.level ∧ r.x.level ≤ 1000) (hnx : 0 ≤ next ∧ next ≤ 4294967296)
  (hi : ItemsAt w N Ao o.l) (hN : N ≤ w.heap.size) (hNX : ∀ b, b < N → X b) (hX : ∀ b, w.heap.size ≤ b → X b) (hso : SmallOp o) (hol : o.l.length ≤ 100000) :
  Calls Tryz.prog 39 #[.agg #[.slice A L.length c, .int .i64 next], .agg (opVal o Ao co)] w (TPost3 X w (doL L next o)) := by
 obtain ⟨⟨wk, wi, wt, wp⟩, hn, ht, hsi⟩ := hso
 obtain ⟨W3, hW3⟩ : ∃ W3, Hid (W3 = ((w.alloc (.cells #[.slice A L.length c, .int .i64 next] 29)).alloc (.cells (opVal o Ao co) 36)).alloc (.cells #[.slice none 0 0, .int .i64 0] 29)) := ⟨_, rfl⟩
 have hb3 : Below w.heap.size w W3 := by rw [hW3.out]; exact (((Below.refl _ w).alloc (Nat.le_refl _) _).alloc (by simp) _).alloc (by simp <;> omega) _
 have hz3 : W3.heap.size = w.heap.size + 3 := by rw [hW3.out]; simp
 have hx3 : W3.heap[w.heap.size]? = some (.cells (treeV A L.length c next) 29 (0, 0)) := by
  rw [hW3.out]
  exact (Below.heap_alloc _ _ _ (by simp <;> omega)).trans ((Below.heap_alloc _ _ _ (by simp)).trans (heap_alloc_new w _))
 have ho3 : W3.heap[w.heap.size + 1]? = some (.cells (opVal o Ao co) 36 (0, 0)) := by
  rw [hW3.out]
  refine (Below.heap_alloc _ _ _ (by simp)).trans ?_
  have := heap_alloc_new (w.alloc (.cells #[.slice A L.length c, .int .i64 next] 29)) (.cells (opVal o Ao co) 36)
  simpa using this
 have hy3 : W3.heap[w.heap.size + 2]? = some (.cells zeroT 29 (0, 0)) := by
  rw [hW3.out]
  have := heap_alloc_new ((w.alloc (.cells #[.slice A L.length c, .int .i64 next] 29)).alloc (.cells (opVal o Ao co) 36)) (.cells #[.slice none 0 0, .int .i64 0] 29)
  simpa [zeroT] using this
 have HX3 := Lib.hid hx3
 have HY3 := Lib.hid hy3
 have HZ3 := Lib.hid hz3
 have HB3 := Lib.hid hb3
 have HT3 := Lib.hid (hT.below hb3)
 have x0 : W3.cell? ⟨w.heap.size, 0, none⟩ = some (.slice A L.length c) := cell_row hx3 0 _ rfl
 have x1 : W3.cell? ⟨w.heap.size, 1, none⟩ = some (.int .i64 next) := cell_row hx3 1 _ rfl
 have d0 : W3.cell? ⟨w.heap.size + 1, 0, none⟩ = some (.int .i64 o.kind) := cell_row ho3 0 _ rfl
 have d1 := cell_row ho3 1 _ rfl
 have d2 := cell_row ho3 2 _ rfl
 have d3 := cell_row ho3 3 _ rfl
 have d4 := cell_row ho3 4 _ rfl
 have d5 := cell_row ho3 5 _ rfl
 have d6 := cell_row ho3 6 _ rfl
 have HI3 : Hid (ItemsAt W3 N Ao o.l) := hi.below (hb3.mono hN)
 have HN3 : Hid (N ≤ W3.heap.size) := Nat.le_trans hN hb3.size
 have HNX := Lib.hid hNX
 have HX30 : Hid (∀ b, W3.heap.size ≤ b → X b) := fun b hb => hX b (Nat.le_trans hb3.size hb)
 have HS := Lib.hid hs
 have HLEN := Lib.hid hlen
 have HLV := Lib.hid hlv
 have HNXT := Lib.hid hnx
 have HSI := Lib.hid hsi
 have HOL := Lib.hid hol
 have HNL := Lib.hid hn
 have HTL := Lib.hid ht
 have hW3' := hW3.out
 unfold opVal at hW3'
 replace hW3 := Lib.hid hW3'
 unfold strV at d4 d5 hW3
 clear hT hs hlen hlv hnx hi hNX hX hsi hol hn ht hb3 hz3 hx3 ho3 hy3 hW3' hN
 obtain ⟨a, ha⟩ : ∃ a, Hid (a = doL L next o) := ⟨_, rfl⟩
 rw [← ha.out]
 unfold opVal strV
 have hfo : a = doL L next o := ha.out
 unfold doL at hfo
 clear ha
 by_cases k0 : o.kind = 0
 ·have e0' : (o.kind == 0) = true := by simpa using k0
  have HA := Lib.hid (hfo.trans (if_pos k0))
  clear hfo k0
  go_enter Tryz.func39, Tryz.ntmps39
  go_wp2_with fail
  rw [← hW3.out]
  refine (RLoad_any L A c next o.l Ao co W3 HT3.out N HI3.out HN3.out HNX.out HX30.out HSI.out (by have := HOL.out; omega) (fun h => check_lv h) HNXT.out).mono ?_
  rw [← HA.out]
  rintro er w4 ⟨A4, c4, rfl, hT4, hb4⟩
  have HY4 : Hid (w4.heap[w.heap.size + 2]? = some (.cells zeroT 29 (0, 0))) := (hb4.block (w.heap.size + 2) (by have := HZ3.out; omega)).trans HY3.out
  have HB4 : Hid (Below w.heap.size w w4) := HB3.out.trans (hb4.mono HB3.out.size)
  have HT4 := Lib.hid hT4
  clear hb4 hT4 d0 d1 d2 d3 d4 d5 d6 x0 x1 HA
  go_wp2_with (refine wpList_store_row rfl 29 (.tmp 4) (.tmp 16) rfl (w.heap.size + 2) (treeV A4 a.1.length c4 a.2.1) rfl rfl 29 zeroT HY4.out (by kernel_rfl) rfl (treeV_one _ _ _ _) ?_)
  try simp only [Exit.inBlock, Exit.then]
  refine bodyPost_ret (results_cell2 Tryz.results39 _ _ (w.heap.size + 2) 29 (treeV A4 a.1.length c4 a.2.1) (0, 0) _ rfl (setRow_heap _ _ _ _ _ _ HY4.out) Tryz.underlying29 rfl (by kernel_rfl)) rfl ?_
  obtain ⟨q1, q2⟩ := HT4.out.laid HB4.out (g := w.heap.size + 2) (by omega) HY4.out (treeV A4 a.1.length c4 a.2.1)
  exact ⟨A4, c4, rfl, q1, q2⟩
 rw [if_neg k0] at hfo
 have e0 : (o.kind == 0) = false := by simpa using k0
 clear k0
 by_cases k1 : o.kind = 1
 ·have e0' : (o.kind == 1) = true := by simpa using k1
  have HA := Lib.hid (hfo.trans (if_pos k1))
  clear hfo k1
  go_enter Tryz.func39, Tryz.ntmps39
  go_wp2_with fail
  rw [← hW3.out]
  refine (RInsert_any L A c next o.id o.pl o.l Ao co W3 HT3.out HS.out HLEN.out N HI3.out HN3.out HNX.out HX30.out HSI.out HOL.out (fun h => forest_lv HOL.out h) HNXT.out).mono ?_
  rw [← HA.out]
  rintro er w4 ⟨A4, c4, rfl, hT4, hb4⟩
  have HY4 : Hid (w4.heap[w.heap.size + 2]? = some (.cells zeroT 29 (0, 0))) := (hb4.block (w.heap.size + 2) (by have := HZ3.out; omega)).trans HY3.out
  have HB4 : Hid (Below w.heap.size w w4) := HB3.out.trans (hb4.mono HB3.out.size)
  have HT4 := Lib.hid hT4
  clear hb4 hT4 d0 d1 d2 d3 d4 d5 d6 x0 x1 HA
  go_wp2_with (refine wpList_store_row rfl 29 (.tmp 4) (.tmp 29) rfl (w.heap.size + 2) (treeV A4 a.1.length c4 a.2.1) rfl rfl 29 zeroT HY4.out (by kernel_rfl) rfl (treeV_one _ _ _ _) ?_)
  try simp only [Exit.inBlock, Exit.then]
  refine bodyPost_ret (results_cell2 Tryz.results39 _ _ (w.heap.size + 2) 29 (treeV A4 a.1.length c4 a.2.1) (0, 0) _ rfl (setRow_heap _ _ _ _ _ _ HY4.out) Tryz.underlying29 rfl (by kernel_rfl)) rfl ?_
  obtain ⟨q1, q2⟩ := HT4.out.laid HB4.out (g := w.heap.size + 2) (by omega) HY4.out (treeV A4 a.1.length c4 a.2.1)
  exact ⟨A4, c4, rfl, q1, q2⟩
 rw [if_neg k1] at hfo
 have e1 : (o.kind == 1) = false := by simpa using k1
 clear k1
 by_cases k2 : o.kind = 2
 ·have e0' : (o.kind == 2) = true := by simpa using k2
  have HA := Lib.hid (hfo.trans (if_pos k2))
  clear hfo k2
  obtain ⟨r, hr⟩ : ∃ r, Hid (deleteL L next o.id = r) := ⟨_, rfl⟩
  have hform := delete_form L next o.id
  rw [hr.out] at hform
  obtain ⟨L', nx, i0, e'⟩ := r
  obtain ⟨hf1, hf2⟩ := hform
  simp only at hf1 hf2
  subst nx
  subst i0
  have HE : Hid (a = (L', next, 0, e')) := HA.out.trans hr.out
  have hc := RDelete_any L A c next o.id W3 HT3.out HS.out HX30.out
  rw [hr.out] at hc
  dsimp only at hc
  clear HA hr
  go_enter Tryz.func39, Tryz.ntmps39
  go_wp2_with fail
  rw [← hW3.out]
  refine hc.mono ?_
  clear hc
  rintro er w4 ⟨A4, c4, rfl, hT4, hb4⟩
  have HX4 : Hid (w4.heap[w.heap.size]? = some (.cells (treeV A L.length c next) 29 (0, 0))) := (hb4.block w.heap.size (by have := HZ3.out; omega)).trans HX3.out
  have HY4 : Hid (w4.heap[w.heap.size + 2]? = some (.cells zeroT 29 (0, 0))) := (hb4.block (w.heap.size + 2) (by have := HZ3.out; omega)).trans HY3.out
  have HB4 : Hid (Below w.heap.size w w4) := HB3.out.trans (hb4.mono HB3.out.size)
  have HT4 := Lib.hid hT4
  clear hb4 hT4 d0 d1 d2 d3 d4 d5 d6 x0 x1
  go_upto_region 17 with (refine wpList_store_row rfl 29 (.tmp 2) (.tmp 39) rfl w.heap.size (treeV A4 L'.length c4 next) rfl rfl 29 (treeV A L.length c next) HX4.out (by kernel_rfl) rfl (treeV_one _ _ _ _) ?_)
  obtain ⟨w5, hw5⟩ : ∃ w5, Hid (w4.setRow w.heap.size (treeV A4 L'.length c4 next) = w5) := ⟨_, rfl⟩
  have HX5 : Hid (w5.heap[w.heap.size]? = some (.cells (treeV A4 L'.length c4 next) 29 (0, 0))) := by show _ = _; rw [← hw5.out]; exact setRow_heap _ _ _ _ _ _ HX4.out
  have HY5 : Hid (w5.heap[w.heap.size + 2]? = some (.cells zeroT 29 (0, 0))) := by show _ = _; rw [← hw5.out, setRow_other _ _ _ _ (by omega)]; exact HY4.out
  have HT5 : Hid (TreeR X w5 A4 c4 L') := ⟨by rw [← hw5.out, setRow_size]; exact HT4.out.1.setRow HX4.out (treeV_no _ _ _ _) _, HT4.out.2⟩
  have HB5 : Hid (Below w.heap.size w w5) := by
   show Below _ _ _
   rw [← hw5.out]
   have h := HB4.out
   exact ⟨h.os, h.tape, h.output, by rw [setRow_size]; exact h.size, fun b hb => (setRow_other _ _ _ _ (by omega)).trans (h.block b hb)⟩
  rw [hw5.out]
  have e0 := cell_row HX5.out 0 _ rfl
  have e1 := cell_row HX5.out 1 _ rfl
  go_wp2_with (refine wpList_store_row rfl 29 (.tmp 4) (.tmp 90) rfl (w.heap.size + 2) (treeV A4 L'.length c4 next) rfl rfl 29 zeroT HY5.out (by kernel_rfl) rfl (treeV_one _ _ _ _) ?_)
  try simp only [Exit.inBlock, Exit.then]
  refine bodyPost_ret (results_cell2 Tryz.results39 _ _ (w.heap.size + 2) 29 (treeV A4 L'.length c4 next) (0, 0) _ rfl (setRow_heap _ _ _ _ _ _ HY5.out) Tryz.underlying29 rfl (by kernel_rfl)) rfl ?_
  obtain ⟨q1, q2⟩ := HT5.out.laid HB5.out (g := w.heap.size + 2) (by omega) HY5.out (treeV A4 L'.length c4 next)
  rw [HE.out]
  exact ⟨A4, c4, rfl, q1, q2⟩
 rw [if_neg k2] at hfo
 have e2 : (o.kind == 2) = false := by simpa using k2
 clear k2
 by_cases k3 : o.kind = 3
 ·have e0' : (o.kind == 3) = true := by simpa using k3
  have HA := Lib.hid (hfo.trans (if_pos k3))
  clear hfo k3
  obtain ⟨r, hr⟩ : ∃ r, Hid (moveL L next o.id o.to o.pl = r) := ⟨_, rfl⟩
  have hform := move_form L next o.id o.to o.pl
  rw [hr.out] at hform
  obtain ⟨L', nx, i0, e'⟩ := r
  obtain ⟨hf1, hf2⟩ := hform
  simp only at hf1 hf2
  subst nx
  subst i0
  have HE : Hid (a = (L', next, 0, e')) := HA.out.trans hr.out
  have hc := RMove_any L A c next o.id o.to o.pl W3 HT3.out HS.out HLEN.out HLV.out HX30.out
  rw [hr.out] at hc
  dsimp only at hc
  clear HA hr
  go_enter Tryz.func39, Tryz.ntmps39
  go_wp2_with fail
  rw [← hW3.out]
  refine hc.mono ?_
  clear hc
  rintro er w4 ⟨A4, c4, rfl, hT4, hb4⟩
  have HX4 : Hid (w4.heap[w.heap.size]? = some (.cells (treeV A L.length c next) 29 (0, 0))) := (hb4.block w.heap.size (by have := HZ3.out; omega)).trans HX3.out
  have HY4 : Hid (w4.heap[w.heap.size + 2]? = some (.cells zeroT 29 (0, 0))) := (hb4.block (w.heap.size + 2) (by have := HZ3.out; omega)).trans HY3.out
  have HB4 : Hid (Below w.heap.size w w4) := HB3.out.trans (hb4.mono HB3.out.size)
  have HT4 := Lib.hid hT4
  clear hb4 hT4 d0 d1 d2 d3 d4 d5 d6 x0 x1
  go_upto_region 17 with (refine wpList_store_row rfl 29 (.tmp 2) (.tmp 52) rfl w.heap.size (treeV A4 L'.length c4 next) rfl rfl 29 (treeV A L.length c next) HX4.out (by kernel_rfl) rfl (treeV_one _ _ _ _) ?_)
  obtain ⟨w5, hw5⟩ : ∃ w5, Hid (w4.setRow w.heap.size (treeV A4 L'.length c4 next) = w5) := ⟨_, rfl⟩
  have HX5 : Hid (w5.heap[w.heap.size]? = some (.cells (treeV A4 L'.length c4 next) 29 (0, 0))) := by show _ = _; rw [← hw5.out]; exact setRow_heap _ _ _ _ _ _ HX4.out
  have HY5 : Hid (w5.heap[w.heap.size + 2]? = some (.cells zeroT 29 (0, 0))) := by show _ = _; rw [← hw5.out, setRow_other _ _ _ _ (by omega)]; exact HY4.out
  have HT5 : Hid (TreeR X w5 A4 c4 L') := ⟨by rw [← hw5.out, setRow_size]; exact HT4.out.1.setRow HX4.out (treeV_no _ _ _ _) _, HT4.out.2⟩
  have HB5 : Hid (Below w.heap.size w w5) := by
   show Below _ _ _
   rw [← hw5.out]
   have h := HB4.out
   exact ⟨h.os, h.tape, h.output, by rw [setRow_size]; exact h.size, fun b hb => (setRow_other _ _ _ _ (by omega)).trans (h.block b hb)⟩
  rw [hw5.out]
  have e0 := cell_row HX5.out 0 _ rfl
  have e1 := cell_row HX5.out 1 _ rfl
  go_wp2_with (refine wpList_store_row rfl 29 (.tmp 4) (.tmp 90) rfl (w.heap.size + 2) (treeV A4 L'.length c4 next) rfl rfl 29 zeroT HY5.out (by kernel_rfl) rfl (treeV_one _ _ _ _) ?_)
  try simp only [Exit.inBlock, Exit.then]
  refine bodyPost_ret (results_cell2 Tryz.results39 _ _ (w.heap.size + 2) 29 (treeV A4 L'.length c4 next) (0, 0) _ rfl (setRow_heap _ _ _ _ _ _ HY5.out) Tryz.underlying29 rfl (by kernel_rfl)) rfl ?_
  obtain ⟨q1, q2⟩ := HT5.out.laid HB5.out (g := w.heap.size + 2) (by omega) HY5.out (treeV A4 L'.length c4 next)
  rw [HE.out]
  exact ⟨A4, c4, rfl, q1, q2⟩
 rw [if_neg k3] at hfo
 have e3 : (o.kind == 3) = false := by simpa using k3
 clear k3
 by_cases k4 : o.kind = 4
 ·have e0' : (o.kind == 4) = true := by simpa using k4
  have HA := Lib.hid (hfo.trans (if_pos k4))
  clear hfo k4
  obtain ⟨r, hr⟩ : ∃ r, Hid (setAttrL L next o.id o.name o.text = r) := ⟨_, rfl⟩
  have hform := attr_form L next o.id o.name o.text
  rw [hr.out] at hform
  obtain ⟨L', nx, i0, e'⟩ := r
  obtain ⟨hf1, hf2⟩ := hform
  simp only at hf1 hf2
  subst nx
  subst i0
  have HE : Hid (a = (L', next, 0, e')) := HA.out.trans hr.out
  have hc := RSetAttr_any L A c next o.id o.name o.text W3 HT3.out HS.out HLEN.out HNL.out HTL.out HX30.out
  rw [hr.out] at hc
  dsimp only at hc
  clear HA hr
  go_enter Tryz.func39, Tryz.ntmps39
  go_wp2_with fail
  rw [← hW3.out]
  refine hc.mono ?_
  clear hc
  rintro er w4 ⟨A4, c4, rfl, hT4, hb4⟩
  have HX4 : Hid (w4.heap[w.heap.size]? = some (.cells (treeV A L.length c next) 29 (0, 0))) := (hb4.block w.heap.size (by have := HZ3.out; omega)).trans HX3.out
  have HY4 : Hid (w4.heap[w.heap.size + 2]? = some (.cells zeroT 29 (0, 0))) := (hb4.block (w.heap.size + 2) (by have := HZ3.out; omega)).trans HY3.out
  have HB4 : Hid (Below w.heap.size w w4) := HB3.out.trans (hb4.mono HB3.out.size)
  have HT4 := Lib.hid hT4
  clear hb4 hT4 d0 d1 d2 d3 d4 d5 d6 x0 x1
  go_upto_region 17 with (refine wpList_store_row rfl 29 (.tmp 2) (.tmp 66) rfl w.heap.size (treeV A4 L'.length c4 next) rfl rfl 29 (treeV A L.length c next) HX4.out (by kernel_rfl) rfl (treeV_one _ _ _ _) ?_)
  obtain ⟨w5, hw5⟩ : ∃ w5, Hid (w4.setRow w.heap.size (treeV A4 L'.length c4 next) = w5) := ⟨_, rfl⟩
  have HX5 : Hid (w5.heap[w.heap.size]? = some (.cells (treeV A4 L'.length c4 next) 29 (0, 0))) := by show _ = _; rw [← hw5.out]; exact setRow_heap _ _ _ _ _ _ HX4.out
  have HY5 : Hid (w5.heap[w.heap.size + 2]? = some (.cells zeroT 29 (0, 0))) := by show _ = _; rw [← hw5.out, setRow_other _ _ _ _ (by omega)]; exact HY4.out
  have HT5 : Hid (TreeR X w5 A4 c4 L') := ⟨by rw [← hw5.out, setRow_size]; exact HT4.out.1.setRow HX4.out (treeV_no _ _ _ _) _, HT4.out.2⟩
  have HB5 : Hid (Below w.heap.size w w5) := by
   show Below _ _ _
   rw [← hw5.out]
   have h := HB4.out
   exact ⟨h.os, h.tape, h.output, by rw [setRow_size]; exact h.size, fun b hb => (setRow_other _ _ _ _ (by omega)).trans (h.block b hb)⟩
  rw [hw5.out]
  have e0 := cell_row HX5.out 0 _ rfl
  have e1 := cell_row HX5.out 1 _ rfl
  go_wp2_with (refine wpList_store_row rfl 29 (.tmp 4) (.tmp 90) rfl (w.heap.size + 2) (treeV A4 L'.length c4 next) rfl rfl 29 zeroT HY5.out (by kernel_rfl) rfl (treeV_one _ _ _ _) ?_)
  try simp only [Exit.inBlock, Exit.then]
  refine bodyPost_ret (results_cell2 Tryz.results39 _ _ (w.heap.size + 2) 29 (treeV A4 L'.length c4 next) (0, 0) _ rfl (setRow_heap _ _ _ _ _ _ HY5.out) Tryz.underlying29 rfl (by kernel_rfl)) rfl ?_
  obtain ⟨q1, q2⟩ := HT5.out.laid HB5.out (g := w.heap.size + 2) (by omega) HY5.out (treeV A4 L'.length c4 next)
  rw [HE.out]
  exact ⟨A4, c4, rfl, q1, q2⟩
 rw [if_neg k4] at hfo
 have e4 : (o.kind == 4) = false := by simpa using k4
 clear k4
 by_cases k5 : o.kind = 5
 ·have e0' : (o.kind == 5) = true := by simpa using k5
  have HA := Lib.hid (hfo.trans (if_pos k5))
  clear hfo k5
  obtain ⟨r, hr⟩ : ∃ r, Hid (delAttrL L next o.id o.name = r) := ⟨_, rfl⟩
  have hform := del_form L next o.id o.name
  rw [hr.out] at hform
  obtain ⟨L', nx, i0, e'⟩ := r
  obtain ⟨hf1, hf2⟩ := hform
  simp only at hf1 hf2
  subst nx
  subst i0
  have HE : Hid (a = (L', next, 0, e')) := HA.out.trans hr.out
  have hc := RDelAttr_any L A c next o.id o.name W3 HT3.out HS.out HLEN.out HX30.out
  rw [hr.out] at hc
  dsimp only at hc
  clear HA hr
  go_enter Tryz.func39, Tryz.ntmps39
  go_wp2_with fail
  rw [← hW3.out]
  refine hc.mono ?_
  clear hc
  rintro er w4 ⟨A4, c4, rfl, hT4, hb4⟩
  have HX4 : Hid (w4.heap[w.heap.size]? = some (.cells (treeV A L.length c next) 29 (0, 0))) := (hb4.block w.heap.size (by have := HZ3.out; omega)).trans HX3.out
  have HY4 : Hid (w4.heap[w.heap.size + 2]? = some (.cells zeroT 29 (0, 0))) := (hb4.block (w.heap.size + 2) (by have := HZ3.out; omega)).trans HY3.out
  have HB4 : Hid (Below w.heap.size w w4) := HB3.out.trans (hb4.mono HB3.out.size)
  have HT4 := Lib.hid hT4
  clear hb4 hT4 d0 d1 d2 d3 d4 d5 d6 x0 x1
  go_upto_region 17 with (refine wpList_store_row rfl 29 (.tmp 2) (.tmp 77) rfl w.heap.size (treeV A4 L'.length c4 next) rfl rfl 29 (treeV A L.length c next) HX4.out (by kernel_rfl) rfl (treeV_one _ _ _ _) ?_)
  obtain ⟨w5, hw5⟩ : ∃ w5, Hid (w4.setRow w.heap.size (treeV A4 L'.length c4 next) = w5) := ⟨_, rfl⟩
  have HX5 : Hid (w5.heap[w.heap.size]? = some (.cells (treeV A4 L'.length c4 next) 29 (0, 0))) := by show _ = _; rw [← hw5.out]; exact setRow_heap _ _ _ _ _ _ HX4.out
  have HY5 : Hid (w5.heap[w.heap.size + 2]? = some (.cells zeroT 29 (0, 0))) := by show _ = _; rw [← hw5.out, setRow_other _ _ _ _ (by omega)]; exact HY4.out
  have HT5 : Hid (TreeR X w5 A4 c4 L') := ⟨by rw [← hw5.out, setRow_size]; exact HT4.out.1.setRow HX4.out (treeV_no _ _ _ _) _, HT4.out.2⟩
  have HB5 : Hid (Below w.heap.size w w5) := by
   show Below _ _ _
   rw [← hw5.out]
   have h := HB4.out
   exact ⟨h.os, h.tape, h.output, by rw [setRow_size]; exact h.size, fun b hb => (setRow_other _ _ _ _ (by omega)).trans (h.block b hb)⟩
  rw [hw5.out]
  have e0 := cell_row HX5.out 0 _ rfl
  have e1 := cell_row HX5.out 1 _ rfl
  go_wp2_with (refine wpList_store_row rfl 29 (.tmp 4) (.tmp 90) rfl (w.heap.size + 2) (treeV A4 L'.length c4 next) rfl rfl 29 zeroT HY5.out (by kernel_rfl) rfl (treeV_one _ _ _ _) ?_)
  try simp only [Exit.inBlock, Exit.then]
  refine bodyPost_ret (results_cell2 Tryz.results39 _ _ (w.heap.size + 2) 29 (treeV A4 L'.length c4 next) (0, 0) _ rfl (setRow_heap _ _ _ _ _ _ HY5.out) Tryz.underlying29 rfl (by kernel_rfl)) rfl ?_
  obtain ⟨q1, q2⟩ := HT5.out.laid HB5.out (g := w.heap.size + 2) (by omega) HY5.out (treeV A4 L'.length c4 next)
  rw [HE.out]
  exact ⟨A4, c4, rfl, q1, q2⟩
 rw [if_neg k5] at hfo
 have e5 : (o.kind == 5) = false := by simpa using k5
 clear k5
 by_cases k6 : o.kind = 6
 ·have e0' : (o.kind == 6) = true := by simpa using k6
  have HA := Lib.hid (hfo.trans (if_pos k6))
  clear hfo k6
  obtain ⟨r, hr⟩ : ∃ r, Hid (setTextL L next o.id o.text = r) := ⟨_, rfl⟩
  have hform := text_form L next o.id o.text
  rw [hr.out] at hform
  obtain ⟨L', nx, i0, e'⟩ := r
  obtain ⟨hf1, hf2⟩ := hform
  simp only at hf1 hf2
  subst nx
  subst i0
  have HE : Hid (a = (L', next, 0, e')) := HA.out.trans hr.out
  have hc := RSetText_any L A c next o.id o.text W3 HT3.out HS.out HLEN.out HTL.out HX30.out
  rw [hr.out] at hc
  dsimp only at hc
  clear HA hr
  go_enter Tryz.func39, Tryz.ntmps39
  go_wp2_with fail
  rw [← hW3.out]
  refine hc.mono ?_
  clear hc
  rintro er w4 ⟨A4, c4, rfl, hT4, hb4⟩
  have HX4 : Hid (w4.heap[w.heap.size]? = some (.cells (treeV A L.length c next) 29 (0, 0))) := (hb4.block w.heap.size (by have := HZ3.out; omega)).trans HX3.out
  have HY4 : Hid (w4.heap[w.heap.size + 2]? = some (.cells zeroT 29 (0, 0))) := (hb4.block (w.heap.size + 2) (by have := HZ3.out; omega)).trans HY3.out
  have HB4 : Hid (Below w.heap.size w w4) := HB3.out.trans (hb4.mono HB3.out.size)
  have HT4 := Lib.hid hT4
  clear hb4 hT4 d0 d1 d2 d3 d4 d5 d6 x0 x1
  go_upto_region 17 with (refine wpList_store_row rfl 29 (.tmp 2) (.tmp 88) rfl w.heap.size (treeV A4 L'.length c4 next) rfl rfl 29 (treeV A L.length c next) HX4.out (by kernel_rfl) rfl (treeV_one _ _ _ _) ?_)
  obtain ⟨w5, hw5⟩ : ∃ w5, Hid (w4.setRow w.heap.size (treeV A4 L'.length c4 next) = w5) := ⟨_, rfl⟩
  have HX5 : Hid (w5.heap[w.heap.size]? = some (.cells (treeV A4 L'.length c4 next) 29 (0, 0))) := by show _ = _; rw [← hw5.out]; exact setRow_heap _ _ _ _ _ _ HX4.out
  have HY5 : Hid (w5.heap[w.heap.size + 2]? = some (.cells zeroT 29 (0, 0))) := by show _ = _; rw [← hw5.out, setRow_other _ _ _ _ (by omega)]; exact HY4.out
  have HT5 : Hid (TreeR X w5 A4 c4 L') := ⟨by rw [← hw5.out, setRow_size]; exact HT4.out.1.setRow HX4.out (treeV_no _ _ _ _) _, HT4.out.2⟩
  have HB5 : Hid (Below w.heap.size w w5) := by
   show Below _ _ _
   rw [← hw5.out]
   have h := HB4.out
   exact ⟨h.os, h.tape, h.output, by rw [setRow_size]; exact h.size, fun b hb => (setRow_other _ _ _ _ (by omega)).trans (h.block b hb)⟩
  rw [hw5.out]
  have e0 := cell_row HX5.out 0 _ rfl
  have e1 := cell_row HX5.out 1 _ rfl
  go_wp2_with (refine wpList_store_row rfl 29 (.tmp 4) (.tmp 90) rfl (w.heap.size + 2) (treeV A4 L'.length c4 next) rfl rfl 29 zeroT HY5.out (by kernel_rfl) rfl (treeV_one _ _ _ _) ?_)
  try simp only [Exit.inBlock, Exit.then]
  refine bodyPost_ret (results_cell2 Tryz.results39 _ _ (w.heap.size + 2) 29 (treeV A4 L'.length c4 next) (0, 0) _ rfl (setRow_heap _ _ _ _ _ _ HY5.out) Tryz.underlying29 rfl (by kernel_rfl)) rfl ?_
  obtain ⟨q1, q2⟩ := HT5.out.laid HB5.out (g := w.heap.size + 2) (by omega) HY5.out (treeV A4 L'.length c4 next)
  rw [HE.out]
  exact ⟨A4, c4, rfl, q1, q2⟩
 rw [if_neg k6] at hfo
 have e6 : (o.kind == 6) = false := by simpa using k6
 clear k6
 have HE := Lib.hid hfo
 clear hfo d1 d2 d3 d4 d5 d6
 go_enter Tryz.func39, Tryz.ntmps39
 go_upto_region 1 with (fail)
 rw [← hW3.out]
 go_upto_region 17 with (fail)
 clear x0 x1 d0
 have e0 := cell_row HX3.out 0 _ rfl
 have e1 := cell_row HX3.out 1 _ rfl
 go_wp2_with (refine wpList_store_row rfl 29 (.tmp 4) (.tmp 90) rfl (w.heap.size + 2) (treeV A L.length c next) rfl rfl 29 zeroT HY3.out (by kernel_rfl) rfl (treeV_one _ _ _ _) ?_)
 try simp only [Exit.inBlock, Exit.then]
 refine bodyPost_ret (results_cell2 Tryz.results39 _ _ (w.heap.size + 2) 29 (treeV A L.length c next) (0, 0) _ rfl (setRow_heap _ _ _ _ _ _ HY3.out) Tryz.underlying29 rfl (by kernel_rfl)) rfl ?_
 obtain ⟨q1, q2⟩ := HT3.out.laid HB3.out (g := w.heap.size + 2) (by omega) HY3.out (treeV A L.length c next)
 rw [HE.out]
 exact ⟨A, c, rfl, q1, q2⟩
end
section
open Go.RowKit Go.Shelf
def Off (M Y : Nat → Prop) (b : Nat) : Prop := ¬ M b ∧ Y b
section
variable {M M' Y : Nat → Prop} {w w' a b : World}
theorem TreeR.turn {A : Option Addr} {c : Nat} {L : List RowD} (h : TreeR (Off M Y) w A c L) (hg : Grows M M' w w') : TreeR (Off M' Y) w' A c L := by
 have hoff : ∀ b, Blk (Off M Y) w.heap.size b → Blk (Off M' Y) w'.heap.size b := fun b hb => ⟨Nat.lt_of_lt_of_le hb.1 hg.1.size, fun hm => by
  rcases hg.2 b hm with h | h
  ·exact hb.2.1 h
  ·have := hb.1; omega, hb.2.2⟩
 have hcell : ∀ p : Addr, Blk (Off M Y) w.heap.size p.block → w'.cell? p = w.cell? p := fun p hp => by
  unfold World.cell?
  rw [hg.1.block _ hp.1 hp.2.1]
 refine ⟨fun hl => ?_, h.2⟩
 obtain ⟨ad, rfl, hb, hr⟩ := h.1 hl
 refine ⟨ad, rfl, hoff _ hb, fun k r hk => ?_⟩
 obtain ⟨A', c', ⟨ha, hx⟩, hcc, hc⟩ := hr k r hk
 have hb' : Blk (Off M Y) w.heap.size (ad.add (k * 6)).block := by rw [block_of_add]; exact hb
 refine ⟨A', c', ⟨fun hp => ?_, fun hp ad2 e => ?_⟩, hcc, ?_⟩
 ·obtain ⟨ad2, e, hb2, hq⟩ := ha hp
  have hb3 : Blk (Off M Y) w.heap.size ad2.block := ⟨hb2, hx hp ad2 e⟩
  refine ⟨ad2, e, Nat.lt_of_lt_of_le hb2 hg.1.size, fun j a hj => ?_⟩
  obtain ⟨q1, q2⟩ := hq j a hj
  exact ⟨(hcell _ (by rw [block_of_add]; exact hb3)).trans q1, (hcell _ (by show Blk _ _ (ad2.add _).block; rw [block_of_add]; exact hb3)).trans q2⟩
 ·obtain ⟨ad3, e3, hb2, _⟩ := ha hp
  have e4 := e3
  rw [e] at e4
  injection e4 with e4
  subst e4
  exact (hoff _ ⟨hb2, hx hp _ e⟩).2
 ·unfold RowCells at hc ⊢
  obtain ⟨e0, e1, e2, e3, e4, e5⟩ := hc
  exact ⟨(hcell _ hb').trans e0, (hcell _ (by exact hb')).trans e1, (hcell _ (by exact hb')).trans e2, (hcell _ (by exact hb')).trans e3, (hcell _ (by exact hb')).trans e4, (hcell _ (by exact hb')).trans e5⟩
theorem Turn.below_to (h : Turn M w a) (k : Below a.heap.size a b) : Turn M w b := ⟨k.os.trans h.os, k.tape.trans h.tape, k.output.trans h.output, Nat.le_trans h.size k.size, fun j hj hm => (k.block j (Nat.lt_of_lt_of_le hj h.size)).trans (h.block j hj hm)⟩
theorem Turn.row_to (h : Turn M w a) {g : Nat} (hg : w.heap.size ≤ g) (cs : Array Value) : Turn M w (a.setRow g cs) := ⟨h.os, h.tape, h.output, by rw [setRow_size]; exact h.size, fun j hj hm => (setRow_other _ _ _ _ (by omega)).trans (h.block j hj hm)⟩
theorem Turn.turn_to (h : Turn M w a) (k : Turn M' a b) (hm : ∀ j, M' j → M j ∨ w.heap.size ≤ j) : Turn M w b := ⟨k.os.trans h.os, k.tape.trans h.tape, k.output.trans h.output, Nat.le_trans h.size k.size, fun j hj hn => (k.block j (Nat.lt_of_lt_of_le hj h.size) (fun h' => by
  rcases hm j h' with h1 | h1
  ·exact hn h1
  ·omega)).trans (h.block j hj hn)⟩
theorem TreeM.setRow {t : Nat} {f : Fo} {next : Int} (h : TreeM M t f next w) {g : Nat} (hg : ¬ M g) (cs : Array Value) : TreeM M t f next (w.setRow g cs) :=
 h.turn (M' := fun b => b = g) ⟨rfl, rfl, rfl, by rw [setRow_size]; exact Nat.le_refl _, fun k _ hn => setRow_other _ _ _ _ hn⟩ (fun b hb e => hg (e ▸ hb))
end
def PlayP (M Y : Nat → Prop) (t : Nat) (next : Int) (w : World) (er : Ending) (w' : World) : Prop := ∃ (M' : Nat → Prop) (f' : Fo) (next' : Int) (A' : Option Addr) (c' : Nat), er = .returned (.tuple #[.agg (treeV A' (f'.flat 0).length c' next'), .bool true]) ∧ TreeM M' t f' next' w' ∧ TreeR (Off M' Y) w' A' c' (f'.flat 0) ∧ Grows M M' w w' ∧ next' ≤ next + 2500
theorem plays_in (l : List OpD) (Al : Option Addr) (cl N t : Nat) (f : Fo) (next : Int) (A : Option Addr) (c : Nat) (M Y : Nat → Prop) (w : World) (h : TreeM M t f next w) (hR : TreeR (Off M Y) w A c (f.flat 0)) (hl : OpsAt w N Al l) (hM : ∀ b, M b → N ≤ b) (hN : N ≤ w.heap.size) (hs : SmallOps l) (hfew : fewL l = true) (hY : ∀ b, w.heap.size ≤ b → Y b) (hYN : ∀ b, b < N → Y b) :
  Calls Tryz.prog 13 #[.pointer (some ⟨t, 0, none⟩), .agg (treeV A (f.flat 0).length c next), .slice Al l.length cl] w (PlayP M Y t next w) := by
 obtain ⟨W2, hW2⟩ : ∃ W2, Hid (W2 = (w.alloc (.cells #[.slice A (f.flat 0).length c, .int .i64 next] 29)).alloc (.cells #[.slice none 0 0, .int .i64 0] 29)) := ⟨_, rfl⟩
 have hb2 : Below w.heap.size w W2 := by rw [hW2.out]; exact ((Below.refl _ w).alloc (Nat.le_refl _) _).alloc (by simp) _
 have hz2 : W2.heap.size = w.heap.size + 2 := by rw [hW2.out]; simp
 have HX2 : Hid (W2.heap[w.heap.size]? = some (.cells (treeV A (f.flat 0).length c next) 29 (0, 0))) := by
  show _ = _
  rw [hW2.out]
  exact (Below.heap_alloc _ _ _ (by simp)).trans (heap_alloc_new w _)
 have HY2 : Hid (W2.heap[w.heap.size + 1]? = some (.cells zeroT 29 (0, 0))) := by
  show _ = _
  rw [hW2.out]
  have := heap_alloc_new (w.alloc (.cells #[.slice A (f.flat 0).length c, .int .i64 next] 29)) (.cells #[.slice none 0 0, .int .i64 0] 29)
  simpa [zeroT] using this
 have HL := Lib.hid hl
 have HS := Lib.hid hs
 have HM := Lib.hid hM
 have HYY := Lib.hid hY
 have HYN := Lib.hid hYN
 have HT := Lib.hid h
 have HT2 := Lib.hid (h.below hb2)
 have HR2 := Lib.hid (hR.below hb2)
 have HTU2 : Hid (Turn M w W2) := Turn.of_below hb2
 have HFEW : Hid (∀ o ∈ l, o.l.length ≤ 2500) := fun o ho => by
  unfold fewL at hfew
  have h1 := of_decide_eq_true ((Bool.and_eq_true _ _ ▸ hfew : _ ∧ _).2)
  have := many_mem ho
  omega
 have HMN : Hid (manyL l ≤ 2500) := by
  unfold fewL at hfew
  have h1 := of_decide_eq_true ((Bool.and_eq_true _ _ ▸ hfew : _ ∧ _).2)
  exact h1
 have hln : (l.length : Int) ≤ 1048576 := by have := hs.1; omega
 clear hl hs hM hY hYN h hR hb2 hfew
 unfold treeV
 go_enter Tryz.func13, Tryz.ntmps13
 go_wp2_with fail
 rw [← hW2.out]
 go_loopw [17] (fun i wr => ∃ (k : Nat) (f1 : Fo) (nx : Int) (A1 : Option Addr) (c1 : Nat) (M1 : Nat → Prop), k ≤ l.length ∧ i = .int .i64 (k : Int) ∧ Hid (TreeM M1 t f1 nx wr) ∧ Hid (TreeR (Off M1 Y) wr A1 c1 (f1.flat 0)) ∧ Hid (∀ b, M1 b → M b ∨ w.heap.size + 2 ≤ b) ∧ Hid (Turn M w wr) ∧ Hid (w.heap.size + 2 ≤ wr.heap.size) ∧
  Hid (wr.heap[w.heap.size]? = some (.cells (treeV A1 (f1.flat 0).length c1 nx) 29 (0, 0))) ∧ Hid (wr.heap[w.heap.size + 1]? = some (.cells zeroT 29 (0, 0))) ∧ Hid (nx ≤ next + (manyL (l.take k) : Int))) (fun i _ => l.length - (intOf i).toNat)
 case atStart => exact ⟨0, f, next, A, c, M, Nat.zero_le _, rfl, HT2.out, HR2.out, fun b hb => .inl hb, HTU2.out, by show _ ≤ _; omega, HX2.out, HY2.out, by show _ ≤ _; omega⟩
 case round =>
  obtain ⟨k, f1, nx, A1, c1, M1, hk, rfl, ht, hr, hm1, htu, hz, hx, hy, hnb⟩ := hrel
  clear HT2 HR2 HTU2 HX2 HY2 hz2
  have HMB : Hid (∀ b, b = w.heap.size ∨ b = w.heap.size + 1 → ¬ M1 b) := fun b hb hm => by
   rcases hm1.out b hm with h | h
   ·have := HT.out.lt h
    omega
   ·omega
  by_cases hlt : k < l.length
  ·obtain ⟨o, ho⟩ : ∃ o, Hid (l[k]? = some o) := ⟨l[k], List.getElem?_eq_getElem _⟩
   obtain ⟨hso, hol⟩ := HS.out.2 o (List.mem_of_getElem? ho.out)
   have HSO := Lib.hid hso
   have HOL : Hid (o.l.length ≤ 2500) := HFEW.out o (List.mem_of_getElem? ho.out)
   have hLO : ∀ b, M1 b → N ≤ b := fun b hm => by
    rcases hm1.out b hm with h | h
    ·exact HM.out b h
    ·omega
   have HLO := Lib.hid hLO
   have hOW : OpsAt wr N Al l := HL.out.keep fun p hp => by
    unfold World.cell?
    rw [htu.out.block _ (Nat.lt_of_lt_of_le hp hN) (fun hm => by have := HM.out _ hm; omega)]
   obtain ⟨ad, hAd, hadB, hcells⟩ := hOW (by omega)
   subst hAd
   obtain ⟨A', c', hit, hcap, k0, k1, k2, k3, k4, k5, k6⟩ := hcells k o ho.out
   have hlt' : (k : Int) < l.length := by omega
   have hk00 : (0 : Int) ≤ (k : Int) := by omega
   obtain ⟨W1, hW1⟩ : ∃ W1, Hid (W1 = wr.alloc (.cells (opVal o A' c') 36)) := ⟨_, rfl⟩
   have hb1 : Below wr.heap.size wr W1 := by rw [hW1.out]; exact (Below.refl _ wr).alloc (Nat.le_refl _) _
   have hX1 : W1.heap[wr.heap.size]? = some (.cells (opVal o A' c') 36 (0, 0)) := by rw [hW1.out]; exact heap_alloc_new wr _
   have HT1 := Lib.hid (ht.out.below hb1)
   have HR1 := Lib.hid (hr.out.below hb1)
   have HTU1 := Lib.hid (htu.out.below_to hb1)
   have HNw : Hid (N ≤ wr.heap.size) := Nat.le_trans hN htu.out.size
   have HIT := Lib.hid (hit.below (hb1.mono HNw.out))
   have HOX1 := Lib.hid hX1
   have hx1 := (hb1.block w.heap.size (by have := hz.out; omega)).trans hx.out
   have HX1 := Lib.hid hx1
   have HY1 : Hid (W1.heap[w.heap.size + 1]? = some (.cells zeroT 29 (0, 0))) := (hb1.block (w.heap.size + 1) (by have := hz.out; omega)).trans hy.out
   have HZB : Hid (wr.heap.size < W1.heap.size) := by show _ < _; rw [hW1.out]; simp
   have hW1' := hW1.out
   unfold opVal strV at hW1'
   replace hW1 := Lib.hid hW1'
   unfold strV at k4 k5
   obtain ⟨ans, hans⟩ : ∃ a, Hid (doL (f1.flat 0) nx o = a) := ⟨_, rfl⟩
   clear hcells hit hb1 hX1 hso hol hcap hW1' hLO hOW hx1
   go_upto_region 4 with (fail)
   rw [← hW1.out]
   clear k0 k1 k2 k3 k4 k5 k6
   have x0 : W1.cell? ⟨w.heap.size, 0, none⟩ = some (.slice A1 (f1.flat 0).length c1) := cell_row HX1.out 0 _ rfl
   have x1 : W1.cell? ⟨w.heap.size, 1, none⟩ = some (.int .i64 nx) := cell_row HX1.out 1 _ rfl
   have ho1 := HOX1.out
   unfold opVal strV at ho1
   have d0 := cell_row ho1 0 _ rfl
   have d1 := cell_row ho1 1 _ rfl
   have d2 := cell_row ho1 2 _ rfl
   have d3 := cell_row ho1 3 _ rfl
   have d4 := cell_row ho1 4 _ rfl
   have d5 := cell_row ho1 5 _ rfl
   have d6 := cell_row ho1 6 _ rfl
   clear ho1
   go_wp2_with fail
   have hINV := ht.out.inv
   have hXN : ∀ b, W1.heap.size ≤ b → Off M1 Y b := fun b hb => ⟨fun hm => by have := HT1.out.lt hm; omega, HYY.out b (Nat.le_trans HTU1.out.size hb)⟩
   have hXB : ∀ b, b < N → Off M1 Y b := fun b hb => ⟨fun hm => by have := HLO.out b hm; omega, HYN.out b hb⟩
   refine (RDo_any (f1.flat 0) A1 c1 nx o A' c' N W1 HR1.out hINV.rows (by have := hINV.len; omega) hINV.lv (by have := hINV.nx; omega) HIT.out (Nat.le_trans hN HTU1.out.size) hXB hXN HSO.out (by have := HOL.out; omega)).mono ?_
   have hids := (do_ids (f1.flat 0) nx o).1
   rw [hans.out] at hids ⊢
   obtain ⟨L2, NX, ID, E⟩ := ans
   have HNB : Hid (NX ≤ next + (manyL (l.take (k + 1)) : Int)) := by
    have h1 := hnb.out
    have h2 := many_snoc ho.out
    simp only at hids
    show _ ≤ _
    split at hids <;> omega
   clear hids
   rintro e2 w2 ⟨A2, c2, he2, hR2, hb2⟩
   unfold treeV at he2
   subst he2
   obtain ⟨W3, hW3⟩ : ∃ W3, Hid (W3 = w2.alloc (.cells #[.slice A2 L2.length c2, .int .i64 NX] 29)) := ⟨_, rfl⟩
   have hb3 : Below w2.heap.size w2 W3 := by rw [hW3.out]; exact (Below.refl _ w2).alloc (Nat.le_refl _) _
   have hb13 : Below W1.heap.size W1 W3 := hb2.trans (hb3.mono hb2.size)
   have hg3 : W3.heap[w2.heap.size]? = some (.cells #[.slice A2 L2.length c2, .int .i64 NX] 29 (0, 0)) := by rw [hW3.out]; exact heap_alloc_new w2 _
   have HX3 : Hid (W3.heap[w.heap.size]? = some (.cells (treeV A1 (f1.flat 0).length c1 nx) 29 (0, 0))) := (hb13.block w.heap.size (by have := hz.out; have := HZB.out; omega)).trans HX1.out
   have HY3 : Hid (W3.heap[w.heap.size + 1]? = some (.cells zeroT 29 (0, 0))) := (hb13.block (w.heap.size + 1) (by have := hz.out; have := HZB.out; omega)).trans HY1.out
   have HO3 : Hid (W3.heap[wr.heap.size]? = some (.cells (opVal o A' c') 36 (0, 0))) := (hb13.block wr.heap.size HZB.out).trans HOX1.out
   have HR3 : Hid (TreeR (Off M1 Y) W3 A2 c2 L2) := hR2.below hb3
   have HT3 := Lib.hid (HT1.out.below hb13)
   have HTU3 := Lib.hid (HTU1.out.below_to hb13)
   have HIT3 := Lib.hid (HIT.out.below (hb13.mono (Nat.le_trans hN HTU1.out.size)))
   have HZ3 : Hid (W1.heap.size ≤ W3.heap.size) := hb13.size
   clear d0 d1 d2 d3 d4 d5 d6 x0 x1 hR2 hb2 hb3 hb13 hINV hXN hXB
   go_upto_region 5 with (fail)
   rw [← hW3.out]
   have g0 : W3.cell? ⟨w2.heap.size, 0, none⟩ = some (.slice A2 L2.length c2) := cell_row hg3 0 _ rfl
   have g1 : W3.cell? ⟨w2.heap.size, 1, none⟩ = some (.int .i64 NX) := cell_row hg3 1 _ rfl
   clear hg3
   go_upto_region 6 with (refine wpList_store_row rfl 29 (.tmp 4) (.tmp 28) rfl w.heap.size (treeV A2 L2.length c2 NX) rfl rfl 29 (treeV A1 (f1.flat 0).length c1 nx) HX3.out (by kernel_rfl) rfl (treeV_one _ _ _ _) ?_)
   clear g0 g1
   obtain ⟨W4, hW4⟩ : ∃ W4, Hid (W3.setRow w.heap.size (treeV A2 L2.length c2 NX) = W4) := ⟨_, rfl⟩
   have HX4 : Hid (W4.heap[w.heap.size]? = some (.cells (treeV A2 L2.length c2 NX) 29 (0, 0))) := by show _ = _; rw [← hW4.out]; exact setRow_heap _ _ _ _ _ _ HX3.out
   have HY4 : Hid (W4.heap[w.heap.size + 1]? = some (.cells zeroT 29 (0, 0))) := by show _ = _; rw [← hW4.out, setRow_other _ _ _ _ (by omega)]; exact HY3.out
   have ho4 : W4.heap[wr.heap.size]? = some (.cells (opVal o A' c') 36 (0, 0)) := by rw [← hW4.out, setRow_other _ _ _ _ (by have := hz.out; omega)]; exact HO3.out
   have HR4 : Hid (TreeR (Off M1 Y) W4 A2 c2 L2) := by
    refine ⟨?_, HR3.out.2⟩
    rw [← hW4.out, setRow_size]
    exact HR3.out.1.setRow HX3.out (treeV_no _ _ _ _) _
   have HT4 : Hid (TreeM M1 t f1 nx W4) := by show TreeM _ _ _ _ _; rw [← hW4.out]; exact HT3.out.setRow (HMB.out _ (.inl rfl)) _
   have HTU4 : Hid (Turn M w W4) := by show Turn _ _ _; rw [← hW4.out]; exact HTU3.out.row_to (Nat.le_refl _) _
   have hadw : w.heap.size + 2 ≤ wr.heap.size := hz.out
   have HIT4 : Hid (ItemsAt W4 N A' o.l) := HIT3.out.keep fun p hp => by
    unfold World.cell?
    rw [← hW4.out, setRow_other _ _ _ _ (by omega)]
   have HZ4 : Hid (W1.heap.size ≤ W4.heap.size) := by show _ ≤ _; rw [← hW4.out, setRow_size]; exact HZ3.out
   have HNW4 : Hid (N ≤ W4.heap.size) := Nat.le_trans hN HTU4.out.size
   rw [hW4.out]
   unfold opVal strV at ho4
   have d0 := cell_row ho4 0 _ rfl
   have d1 := cell_row ho4 1 _ rfl
   have d2 := cell_row ho4 2 _ rfl
   have d3 := cell_row ho4 3 _ rfl
   have d4 := cell_row ho4 4 _ rfl
   have d5 := cell_row ho4 5 _ rfl
   have d6 := cell_row ho4 6 _ rfl
   clear ho4
   go_wp2_with fail
   refine (does_in HT4.out o A' c' N HIT4.out HLO.out HNW4.out HSO.out).mono ?_
   rw [hans.out]
   rintro e5 w5 ⟨rfl, M2, f2, hf2, ht5, hg5⟩
   obtain rfl : L2 = f2.flat 0 := hf2
   simp only at ht5
   have HT5 := Lib.hid ht5
   have HR5 := Lib.hid (HR4.out.turn hg5)
   have hx5 : w5.heap[w.heap.size]? = some (.cells (treeV A2 (f2.flat 0).length c2 NX) 29 (0, 0)) := (hg5.1.block _ (by have := HZ4.out; have := HZB.out; omega) (HMB.out _ (.inl rfl))).trans HX4.out
   have HX5 := Lib.hid hx5
   have HY5 : Hid (w5.heap[w.heap.size + 1]? = some (.cells zeroT 29 (0, 0))) := (hg5.1.block _ (by have := HZ4.out; have := HZB.out; omega) (HMB.out _ (.inr rfl))).trans HY4.out
   have HTU5 : Hid (Turn M w w5) := HTU4.out.turn_to hg5.1 fun j hj => by
    rcases hm1.out j hj with h | h
    ·exact .inl h
    ·exact .inr (by omega)
   have HM2 : Hid (∀ b, M2 b → M b ∨ w.heap.size + 2 ≤ b) := fun b hb => by
    rcases hg5.2 b hb with h | h
    ·exact hm1.out b h
    ·have := HZ4.out; have := HZB.out; exact .inr (by omega)
   have HZ5 : Hid (w.heap.size + 2 ≤ w5.heap.size) := by have := hg5.1.size; have := HZ4.out; have := HZB.out; show _ ≤ _; omega
   clear d0 d1 d2 d3 d4 d5 d6 ht5 hg5
   go_upto_region 7 with (fail)
   have hbd : Below w5.heap.size w5 w5.drew := ⟨rfl, rfl, rfl, Nat.le_refl _, fun _ _ => rfl⟩
   obtain ⟨w6, hw6⟩ : ∃ w6, Hid (w5.drew = w6) := ⟨_, rfl⟩
   have hx6 : w5.drew.heap[w.heap.size]? = some (.cells (treeV A2 (f2.flat 0).length c2 NX) 29 (0, 0)) := hx5
   have hS : w5.drew.cell? ⟨w.heap.size, 0, none⟩ = some (.slice A2 (f2.flat 0).length c2) ∧ w5.drew.cell? ⟨w.heap.size, 1, none⟩ = some (.int .i64 NX) := ⟨cell_row hx6 0 _ rfl, cell_row hx6 1 _ rfl⟩
   have HSD := Lib.hid hS
   have t0 : ((f2.cnt : Int) != ((f2.flat 0).length : Int)) = false := by rw [Fo.flat_len]; simp
   clear hx5 hx6
   refine wp_region_held_drew (S := fun W => W.cell? ⟨w.heap.size, 0, none⟩ = some (.slice A2 (f2.flat 0).length c2) ∧ W.cell? ⟨w.heap.size, 1, none⟩ = some (.int .i64 NX)) (by kernel_rfl) hS (fun hHeld => ?_)
   clear hS
   rw [hw6.out] at hbd HSD
   have HT6 := Lib.hid (HT5.out.below hbd)
   have HR6 := Lib.hid (HR5.out.below hbd)
   have HX6 : Hid (w6.heap[w.heap.size]? = some (.cells (treeV A2 (f2.flat 0).length c2 NX) 29 (0, 0))) := (hbd.block _ (by have := HZ5.out; omega)).trans HX5.out
   have HY6 : Hid (w6.heap[w.heap.size + 1]? = some (.cells zeroT 29 (0, 0))) := (hbd.block _ (by have := HZ5.out; omega)).trans HY5.out
   have HTU6 := Lib.hid (HTU5.out.below_to hbd)
   have HZ6 : Hid (w.heap.size + 2 ≤ w6.heap.size) := Nat.le_trans HZ5.out hbd.size
   clear hbd
   refine tkv 0 (h := tkv 1 (h := tkv 2 (h := tkv 3 (h := tkv 4 (h := tkv 5 (h := ?_))))))
   refine tkv 6 (h := tkv 7 (h := tkv 8 (h := tkv 9 (h := ?_))))
   refine tkv 11 (h := tkv 12 (h := tkv 13 (h := ?_)))
   rw [hw6.out]
   refine rdy 10 (fun K hK => ?_)
   go_simp
   refine (Len_in HT6.out).mono ?_
   rintro e7 w7 ⟨rfl, rfl⟩
   refine hK.out _ _ (HSD.out) (fun hHeld => ?_)
   clear hK K
   try go_frame
   refine tkv 14 (h := tkv 15 (h := tkv 16 (h := tkv 17 (h := ?_))))
   refine tkv 19 (h := tkv 20 (h := ?_))
   refine rdy 18 (fun K hK => ?_)
   go_simp
   refine (Next_in HT6.out).mono ?_
   rintro e8 w8 ⟨rfl, rfl⟩
   refine hK.out _ _ (HSD.out) (fun hHeld => ?_)
   clear hK K
   try go_frame
   refine tkv 21 (h := tkv 22 (h := ?_))
   refine wpAnyH_done (by kernel_rfl) ?_ _
   clear t0
   go_wp2_with fail
   go_roundw
   case rel => exact ⟨k + 1, f2, NX, A2, c2, M2, by omega, by go_num, HT6.out, HR6.out, HM2.out, HTU6.out, HZ6.out, HX6.out, HY6.out, HNB.out⟩
   case measure => simp [intOf]; omega
  ·have hlt' : ¬ (k : Int) < l.length := by omega
   have x0 : wr.cell? ⟨w.heap.size, 0, none⟩ = some (.slice A1 (f1.flat 0).length c1) := cell_row hx.out 0 _ rfl
   have x1 : wr.cell? ⟨w.heap.size, 1, none⟩ = some (.int .i64 nx) := cell_row hx.out 1 _ rfl
   go_wp2_with (refine wpList_store_row rfl 29 (.tmp 6) (.tmp 60) rfl (w.heap.size + 1) (treeV A1 (f1.flat 0).length c1 nx) rfl rfl 29 zeroT hy.out (by kernel_rfl) rfl (treeV_one _ _ _ _) ?_)
   try simp only [Exit.inBlock, Exit.then]
   refine bodyPost_ret (results_cellb Tryz.results13 _ _ (w.heap.size + 1) 29 (treeV A1 (f1.flat 0).length c1 nx) (0, 0) _ rfl (setRow_heap _ _ _ _ _ _ hy.out) Tryz.underlying29 rfl (by kernel_rfl)) rfl ?_
   refine ⟨M1, f1, nx, A1, c1, rfl, ht.out.setRow (HMB.out _ (.inr rfl)) _, ⟨?_, hr.out.2⟩, ⟨htu.out.row_to (by omega) _, fun b hb => ?_⟩, ?_⟩
   ·rw [setRow_size]
    exact hr.out.1.setRow hy.out zeroT_no _
   ·rcases hm1.out b hb with h | h
    ·exact .inl h
    ·exact .inr (by omega)
   ·have h1 := hnb.out
    have h2 := HMN.out
    rw [show l.take k = l from List.take_of_length_le (by omega)] at h1
    omega
end
section
open Go.RowKit Go.Shelf
variable {X : Nat → Prop}
theorem ROrder_any (L : List RowD) (A : Option Addr) (c : Nat) (next : Int) (w : World) (hL : RowsAt X w w.heap.size A L) (hs : SmallRows L) :
  Calls Tryz.prog 41 #[.agg #[.slice A L.length c, .int .i64 next]] w fun er w' => ∃ A2 c2, er = .returned (.slice A2 L.length c2) ∧ intRow w' (.slice A2 L.length c2) (L.map (·.id)) ∧ Below w.heap.size w w' := by
 have HL := Lib.hid hL
 obtain ⟨hs1, hs2⟩ := hs
 have HS := Lib.hid hs2
 have hn1 : (L.length : Int) ≤ 1000000 := by omega
 have hn0 : (0 : Int) ≤ (L.length : Int) := by omega
 obtain ⟨W1, hW1⟩ : ∃ W1, Hid (W1 = w.alloc (.cells #[.slice A L.length c, .int .i64 next] 29)) := ⟨_, rfl⟩
 have hb1 : Below w.heap.size w W1 := by rw [hW1.out]; exact (Below.refl _ w).alloc (Nat.le_refl _) _
 have hX1 : W1.heap[w.heap.size]? = some (.cells #[.slice A L.length c, .int .i64 next] 29 (0, 0)) := by rw [hW1.out]; exact heap_alloc_new w _
 have hz1 : w.heap.size < W1.heap.size := by rw [hW1.out]; simp
 have HB1 := Lib.hid hb1
 have HX1 := Lib.hid hX1
 have HZ1 := Lib.hid hz1
 have HL1 := Lib.hid ((hL.below hb1).more (Nat.le_of_lt hz1))
 clear hb1 hX1 hz1 hL hs2
 go_enter Tryz.func41, Tryz.ntmps41
 go_wp2_with fail
 rw [← hW1.out]
 go_loopw [3, 4] (fun o i wr => ∃ (k : Nat) (A2 : Option Addr) (c2 : Nat), k ≤ L.length ∧ i = .int .i64 (k : Int) ∧ o = .slice A2 k c2 ∧ Hid (intRow wr (.slice A2 k c2) ((L.map (·.id)).take k)) ∧ Hid (∀ b, (Value.slice A2 k c2).ownBlock = some b → W1.heap.size ≤ b) ∧ Hid (Below W1.heap.size W1 wr)) (fun _ i _ => L.length - (intOf i).toNat)
 case atStart => exact ⟨0, none, 0, Nat.zero_le _, rfl, rfl, ⟨by simp, .inl ⟨rfl, rfl⟩⟩, fun b hb => by simp [Value.ownBlock] at hb, Below.refl _ _⟩
 case round =>
  obtain ⟨k, A2, c2, hk, rfl, rfl, hrow, hfr, hbel⟩ := hrel
  have hX := (hbel.out.block _ HZ1.out).trans HX1.out
  have t0 := cell_row hX 0 _ rfl
  have t1 := cell_row hX 1 _ rfl
  have HLr := Lib.hid (HL1.out.below hbel.out)
  clear hX
  by_cases hlt : k < L.length
  ·obtain ⟨ad, hAd, _⟩ := HLr.out (by omega)
   subst hAd
   obtain ⟨z, hz⟩ : ∃ z, Hid (L[k]? = some z) := ⟨L[k], List.getElem?_eq_getElem _⟩
   obtain ⟨_, A', c', _, _, k0, k1, k2, k3, k4, k5⟩ := HLr.out.row hz.out
   have k00 : (0 : Int) ≤ (k : Int) := by omega
   have hlt' : (k : Int) < L.length := by omega
   have htl : ((L.map (·.id)).take k).length = k := by rw [List.length_take, List.length_map]; omega
   have hsn : (L.map (·.id)).take (k + 1) = (L.map (·.id)).take k ++ [z.id] := by rw [List.take_add_one, List.getElem?_map, hz.out]; rfl
   obtain ⟨pa, pn, pc, w4, hr4, hpn, hrow4, hg4, hf4⟩ := run_append_int hrow.out (by rw [htl]; omega) z.id
   rw [htl] at hpn
   subst hpn
   rw [← hsn] at hrow4
   have hb4 : Below W1.heap.size W1 w4 := ⟨hg4.os.trans hbel.out.os, hg4.tape.trans hbel.out.tape, hg4.output.trans hbel.out.output, Nat.le_trans hbel.out.size hg4.size, fun b hb => (hg4.block b (Nat.lt_of_lt_of_le hb hbel.out.size) (fun h' => by have := hfr.out b h'.symm; omega)).trans (hbel.out.block b hb)⟩
   have hfr4 : ∀ b, (Value.slice pa (k + 1) pc).ownBlock = some b → W1.heap.size ≤ b := fun b hb => by
    rcases hf4 b hb with h' | h'
    ·exact hfr.out b h'
    ·have := hbel.out.size; omega
   have HB4 := Lib.hid hb4
   have HR4 := Lib.hid hrow4
   have HF4 := Lib.hid hfr4
   clear k1 k2 k3 k4 k5 hrow4 hg4 hf4 hb4 hfr4 hsn htl hrow hfr
   go_wp2_with (at_builtin; refine wpList_append_runI _ rfl _ _ 43 rfl (.slice A2 k c2) (.slice (some ⟨wr.heap.size, 0, none⟩) 1 1) (by simp [Act.eval]) (by simp [Act.eval]) hr4 ?_)
   go_roundw
   case rel => exact ⟨k + 1, pa, pc, by omega, by go_num, rfl, HR4.out, HF4.out, HB4.out⟩
   case measure => simp [intOf]; omega
  ·have hlt' : ¬ (k : Int) < L.length := by omega
   obtain rfl : k = L.length := by omega
   have htk : (L.map (·.id)).take L.length = L.map (·.id) := by rw [← List.length_map (f := fun r : RowD => r.id), List.take_length]
   rw [htk] at hrow
   go_wp2_with fail
   go_ret
   exact ⟨A2, c2, rfl, hrow.out, HB1.out.trans (hbel.out.mono HB1.out.size)⟩
end
end Go.Proofs.YtmkgajdgnmolkaaGreat

/-
  Texts of this claim, joined (by a program of the claim's author): GRMo, GRWi.
-/
import Derived.Test.YtmkgajdgnmolkaaGreatR12
import Derived.Test.YtmkgajdgnmolkaaGreatR9
import Derived.Test.YtmkgajdgnmolkaaGreatR1
import Derived.Test.YtmkgajdgnmolkaaGreatR5
import Derived.Test.YtmkgajdgnmolkaaGreatR2
import Derived.Test.YtmkgajdgnmolkaaGreatR6
namespace Go.Proofs.YtmkgajdgnmolkaaGreat
set_option maxRecDepth 100000
set_option maxHeartbeats 16000000
section
open Go.RowKit Go.Shelf
variable {X : Nat → Prop}
theorem find_mem : ∀ {L : List RowD} {id : Int} {k : Nat}, findL L id = some k → ∃ r, L[k]? = some r ∧ r.id = id
 | [], _, _, h => by simp [findL] at h
 | r :: L, id, k, h => by
  unfold findL at h
  split at h
  ·rename_i hr
   injection h with h
   subst h
   exact ⟨r, rfl, hr⟩
  ·obtain ⟨j, hj, h⟩ := Option.map_eq_some_iff.1 h
   obtain ⟨r', h1, h2⟩ := find_mem hj
   subst h
   exact ⟨r', h1, h2⟩
theorem find_some : ∀ {L : List RowD} {id : Int} {r : RowD}, r ∈ L → r.id = id → ∃ q, findL L id = some q
 | r' :: L, id, r, h, hr => by
  unfold findL
  split
  ·exact ⟨0, rfl⟩
  ·rename_i hne
   rcases List.mem_cons.1 h with h | h
   ·subst h; exact absurd hr hne
   ·obtain ⟨q, hq⟩ := find_some h hr
    exact ⟨q + 1, by rw [hq]; rfl⟩
theorem find_without {L : List RowD} {k p : Nat} {to : Int} (hp : findL L to = some p) (h : ¬ (k ≤ p ∧ p < endL L k)) : ∃ q, findL (withoutL L k) to = some q := by
 obtain ⟨r, h1, h2⟩ := find_mem hp
 refine find_some (r := r) ?_ h2
 unfold withoutL
 rw [List.mem_append]
 by_cases hk : k ≤ p
 ·right
  have he : endL L k ≤ p := by omega
  refine List.mem_of_getElem? (i := p - endL L k) ?_
  rw [List.getElem?_drop, show endL L k + (p - endL L k) = p by omega]
  exact h1
 ·left
  refine List.mem_of_getElem? (i := p) ?_
  rw [List.getElem?_take, if_pos (by omega)]
  exact h1
theorem RMove_any (L : List RowD) (A : Option Addr) (c : Nat) (next id to pl : Int) (w : World) (hT : TreeR X w A c L) (hs : SmallRows L) (hlen : L.length ≤ 100000) (hlv : ∀ r ∈ L, -1000 ≤ r.x.level ∧ r.x.level ≤ 1000) (hX : ∀ b, w.heap.size ≤ b → X b) :
  Calls Tryz.prog 66 #[.agg #[.slice A L.length c, .int .i64 next], .int .i64 id, .int .i64 to, .int .i64 pl] w (TPost X w (moveL L next id to pl).1 next (moveL L next id to pl).2.2.2) := by
 obtain ⟨v1, hr1⟩ : ∃ v, Hid (findI L id = v) := ⟨_, rfl⟩
 obtain ⟨v2, hr2⟩ : ∃ v, Hid (findI L to = v) := ⟨_, rfl⟩
 obtain ⟨a, ha⟩ : ∃ a, Hid (a = moveL L next id to pl) := ⟨_, rfl⟩
 rw [← ha.out]
 have HS := Lib.hid hs
 have HLEN := Lib.hid hlen
 have HLV := Lib.hid hlv
 have HXN := Lib.hid hX
 clear hs hlv hX
 have n0 : (0 : Int) ≤ (L.length : Int) := by omega
 have n1 : (L.length : Int) ≤ 100000 := by omega
 obtain ⟨W2, hW2⟩ : ∃ W2, Hid (W2 = (w.alloc (.cells #[.slice A L.length c, .int .i64 next] 29)).alloc (.cells #[.slice none 0 0, .int .i64 0] 29)) := ⟨_, rfl⟩
 have hb2 : Below w.heap.size w W2 := by rw [hW2.out]; exact ((Below.refl _ w).alloc (Nat.le_refl _) _).alloc (by simp) _
 have hz2 : W2.heap.size = w.heap.size + 2 := by rw [hW2.out]; simp
 have hx2 : W2.heap[w.heap.size]? = some (.cells (treeV A L.length c next) 29 (0, 0)) := by
  rw [hW2.out]
  exact (Below.heap_alloc _ _ _ (by simp)).trans (heap_alloc_new w _)
 have hy2 : W2.heap[w.heap.size + 1]? = some (.cells zeroT 29 (0, 0)) := by
  rw [hW2.out]
  have := heap_alloc_new (w.alloc (.cells #[.slice A L.length c, .int .i64 next] 29)) (.cells #[.slice none 0 0, .int .i64 0] 29)
  simpa [zeroT] using this
 have HT2 := Lib.hid (hT.below hb2)
 have HT := Lib.hid hT
 have HB2 := Lib.hid hb2
 have HX2 := Lib.hid hx2
 have HY2 := Lib.hid hy2
 have HZ2 := Lib.hid hz2
 clear hb2 hx2 hy2 hz2 hT
 cases hf : findL L id with
 | none =>
  have hv1 : v1 = -1 := by rw [← hr1.out]; unfold findI; rw [hf]
  have HE : Hid (a = (L, next, 0, 60)) := by show _ = _; rw [ha.out]; unfold moveL; rw [hf]
  clear hf ha
  subst hv1
  go_enter Tryz.func66, Tryz.ntmps66
  go_wp2_with fail
  rw [← hW2.out]
  refine (RFind_any L A c next id W2 HT2.out.1 HS.out (-1) hr1).mono ?_
  rintro ea wa ⟨rfl, hba⟩
  have HBa : Hid (Below w.heap.size w wa) := HB2.out.trans (hba.mono HB2.out.size)
  have HXa : Hid (wa.heap[w.heap.size]? = some (.cells (treeV A L.length c next) 29 (0, 0))) := (hba.block w.heap.size (by have := HZ2.out; omega)).trans HX2.out
  have HYa : Hid (wa.heap[w.heap.size + 1]? = some (.cells zeroT 29 (0, 0))) := (hba.block (w.heap.size + 1) (by have := HZ2.out; omega)).trans HY2.out
  have HTa := Lib.hid (HT2.out.below hba)
  have HZa : Hid (w.heap.size + 2 ≤ wa.heap.size) := by show _ ≤ _; have := hba.size; have := HZ2.out; omega
  have e0 : wa.cell? ⟨w.heap.size, 0, none⟩ = some (.slice A L.length c) := cell_row HXa.out 0 _ rfl
  have e1 : wa.cell? ⟨w.heap.size, 1, none⟩ = some (.int .i64 next) := cell_row HXa.out 1 _ rfl
  clear hba
  go_wp2_with fail
  refine (RFind_any L A c next to wa HTa.out.1 HS.out v2 hr2).mono ?_
  rintro e3 w3 ⟨rfl, hb3⟩
  have HB3 : Hid (Below w.heap.size w w3) := HBa.out.trans (hb3.mono HBa.out.size)
  have HX3 : Hid (w3.heap[w.heap.size]? = some (.cells (treeV A L.length c next) 29 (0, 0))) := (hb3.block w.heap.size (by have := HZa.out; omega)).trans HXa.out
  have HY3 : Hid (w3.heap[w.heap.size + 1]? = some (.cells zeroT 29 (0, 0))) := (hb3.block (w.heap.size + 1) (by have := HZa.out; omega)).trans HYa.out
  have HT3 := Lib.hid (HTa.out.below hb3)
  have HZ3 : Hid (w.heap.size + 2 ≤ w3.heap.size) := by show _ ≤ _; have := hb3.size; have := HZa.out; omega
  clear hb3 e0 e1
  go_upto_region 4 with (fail)
  have e0 := cell_row HX3.out 0 _ rfl
  have e1 := cell_row HX3.out 1 _ rfl
  go_wp2_with (refine wpList_store_row rfl 29 (.tmp 8) (.tmp 27) rfl (w.heap.size + 1) (treeV A L.length c next) rfl rfl 29 zeroT HY3.out (by kernel_rfl) rfl (treeV_one _ _ _ _) ?_)
  try simp only [Exit.inBlock, Exit.then]
  refine bodyPost_ret (results_cellb Tryz.results66 _ _ (w.heap.size + 1) 29 (treeV A L.length c next) (0, 0) _ rfl (setRow_heap _ _ _ _ _ _ HY3.out) Tryz.underlying29 rfl (by kernel_rfl)) rfl ?_
  obtain ⟨q1, q2⟩ := HT3.out.laid HB3.out (g := w.heap.size + 1) (by omega) HY3.out (treeV A L.length c next)
  rw [HE.out]
  exact ⟨A, c, rfl, q1, q2⟩
 | some k =>
  have hv1 : v1 = (k : Int) := by rw [← hr1.out]; unfold findI; rw [hf]
  have hk : k < L.length := find_lt hf
  have hkc : (k : Int) < (L.length : Int) := by omega
  have k0 : (0 : Int) ≤ (k : Int) := by omega
  subst hv1
  cases hg : findL L to with
  | none =>
   have hv2 : v2 = -1 := by rw [← hr2.out]; unfold findI; rw [hg]
   have HE : Hid (a = (L, next, 0, 60)) := by show _ = _; rw [ha.out]; unfold moveL; rw [hf, hg]
   clear hf hg ha
   subst hv2
   go_enter Tryz.func66, Tryz.ntmps66
   go_wp2_with fail
   rw [← hW2.out]
   refine (RFind_any L A c next id W2 HT2.out.1 HS.out (k : Int) hr1).mono ?_
   rintro ea wa ⟨rfl, hba⟩
   have HBa : Hid (Below w.heap.size w wa) := HB2.out.trans (hba.mono HB2.out.size)
   have HXa : Hid (wa.heap[w.heap.size]? = some (.cells (treeV A L.length c next) 29 (0, 0))) := (hba.block w.heap.size (by have := HZ2.out; omega)).trans HX2.out
   have HYa : Hid (wa.heap[w.heap.size + 1]? = some (.cells zeroT 29 (0, 0))) := (hba.block (w.heap.size + 1) (by have := HZ2.out; omega)).trans HY2.out
   have HTa := Lib.hid (HT2.out.below hba)
   have HZa : Hid (w.heap.size + 2 ≤ wa.heap.size) := by show _ ≤ _; have := hba.size; have := HZ2.out; omega
   have e0 : wa.cell? ⟨w.heap.size, 0, none⟩ = some (.slice A L.length c) := cell_row HXa.out 0 _ rfl
   have e1 : wa.cell? ⟨w.heap.size, 1, none⟩ = some (.int .i64 next) := cell_row HXa.out 1 _ rfl
   clear hba
   go_wp2_with fail
   refine (RFind_any L A c next to wa HTa.out.1 HS.out (-1) hr2).mono ?_
   rintro e3 w3 ⟨rfl, hb3⟩
   have HB3 : Hid (Below w.heap.size w w3) := HBa.out.trans (hb3.mono HBa.out.size)
   have HX3 : Hid (w3.heap[w.heap.size]? = some (.cells (treeV A L.length c next) 29 (0, 0))) := (hb3.block w.heap.size (by have := HZa.out; omega)).trans HXa.out
   have HY3 : Hid (w3.heap[w.heap.size + 1]? = some (.cells zeroT 29 (0, 0))) := (hb3.block (w.heap.size + 1) (by have := HZa.out; omega)).trans HYa.out
   have HT3 := Lib.hid (HTa.out.below hb3)
   have HZ3 : Hid (w.heap.size + 2 ≤ w3.heap.size) := by show _ ≤ _; have := hb3.size; have := HZa.out; omega
   clear hb3 e0 e1
   go_upto_region 4 with (fail)
   have e0 := cell_row HX3.out 0 _ rfl
   have e1 := cell_row HX3.out 1 _ rfl
   go_wp2_with (refine wpList_store_row rfl 29 (.tmp 8) (.tmp 27) rfl (w.heap.size + 1) (treeV A L.length c next) rfl rfl 29 zeroT HY3.out (by kernel_rfl) rfl (treeV_one _ _ _ _) ?_)
   try simp only [Exit.inBlock, Exit.then]
   refine bodyPost_ret (results_cellb Tryz.results66 _ _ (w.heap.size + 1) 29 (treeV A L.length c next) (0, 0) _ rfl (setRow_heap _ _ _ _ _ _ HY3.out) Tryz.underlying29 rfl (by kernel_rfl)) rfl ?_
   obtain ⟨q1, q2⟩ := HT3.out.laid HB3.out (g := w.heap.size + 1) (by omega) HY3.out (treeV A L.length c next)
   rw [HE.out]
   exact ⟨A, c, rfl, q1, q2⟩
  | some p =>
   have hv2 : v2 = (p : Int) := by rw [← hr2.out]; unfold findI; rw [hg]
   have hp : p < L.length := find_lt hg
   have hpc : (p : Int) < (L.length : Int) := by omega
   have p0 : (0 : Int) ≤ (p : Int) := by omega
   subst hv2
   have HAD : Hid (∃ ad, A = some ad) := by
    obtain ⟨ad, hA, _⟩ := HT.out.1 (by omega)
    exact ⟨ad, hA⟩
   obtain ⟨⟨ri, r⟩, hrp⟩ : ∃ r, Hid (L[p]? = some r) := ⟨L[p], List.getElem?_eq_getElem _⟩
   obtain ⟨E, hE⟩ : ∃ E, Hid (endL L k = E) := ⟨_, rfl⟩
   have HFW := Lib.hid (fun h => find_without (k := k) hg h)
   by_cases hk0 : k = 0
   ·have HE : Hid (a = (L, next, 0, 62)) := by show _ = _; rw [ha.out]; unfold moveL; rw [hf, hg]; exact if_pos hk0
    have t0 : ((k : Int) == 0) = true := by simp [hk0]
    clear hf hg ha hk0
    go_enter Tryz.func66, Tryz.ntmps66
    go_wp2_with fail
    rw [← hW2.out]
    refine (RFind_any L A c next id W2 HT2.out.1 HS.out (k : Int) hr1).mono ?_
    rintro ea wa ⟨rfl, hba⟩
    have HBa : Hid (Below w.heap.size w wa) := HB2.out.trans (hba.mono HB2.out.size)
    have HXa : Hid (wa.heap[w.heap.size]? = some (.cells (treeV A L.length c next) 29 (0, 0))) := (hba.block w.heap.size (by have := HZ2.out; omega)).trans HX2.out
    have HYa : Hid (wa.heap[w.heap.size + 1]? = some (.cells zeroT 29 (0, 0))) := (hba.block (w.heap.size + 1) (by have := HZ2.out; omega)).trans HY2.out
    have HTa := Lib.hid (HT2.out.below hba)
    have HZa : Hid (w.heap.size + 2 ≤ wa.heap.size) := by show _ ≤ _; have := hba.size; have := HZ2.out; omega
    have e0 : wa.cell? ⟨w.heap.size, 0, none⟩ = some (.slice A L.length c) := cell_row HXa.out 0 _ rfl
    have e1 : wa.cell? ⟨w.heap.size, 1, none⟩ = some (.int .i64 next) := cell_row HXa.out 1 _ rfl
    clear hba
    go_wp2_with fail
    refine (RFind_any L A c next to wa HTa.out.1 HS.out (p : Int) hr2).mono ?_
    rintro e3 w3 ⟨rfl, hb3⟩
    have HB3 : Hid (Below w.heap.size w w3) := HBa.out.trans (hb3.mono HBa.out.size)
    have HX3 : Hid (w3.heap[w.heap.size]? = some (.cells (treeV A L.length c next) 29 (0, 0))) := (hb3.block w.heap.size (by have := HZa.out; omega)).trans HXa.out
    have HY3 : Hid (w3.heap[w.heap.size + 1]? = some (.cells zeroT 29 (0, 0))) := (hb3.block (w.heap.size + 1) (by have := HZa.out; omega)).trans HYa.out
    have HT3 := Lib.hid (HTa.out.below hb3)
    have HZ3 : Hid (w.heap.size + 2 ≤ w3.heap.size) := by show _ ≤ _; have := hb3.size; have := HZa.out; omega
    clear hb3 e0 e1
    go_upto_region 6 with (fail)
    have e0 := cell_row HX3.out 0 _ rfl
    have e1 := cell_row HX3.out 1 _ rfl
    go_wp2_with (refine wpList_store_row rfl 29 (.tmp 8) (.tmp 30) rfl (w.heap.size + 1) (treeV A L.length c next) rfl rfl 29 zeroT HY3.out (by kernel_rfl) rfl (treeV_one _ _ _ _) ?_)
    try simp only [Exit.inBlock, Exit.then]
    refine bodyPost_ret (results_cellb Tryz.results66 _ _ (w.heap.size + 1) 29 (treeV A L.length c next) (0, 0) _ rfl (setRow_heap _ _ _ _ _ _ HY3.out) Tryz.underlying29 rfl (by kernel_rfl)) rfl ?_
    obtain ⟨q1, q2⟩ := HT3.out.laid HB3.out (g := w.heap.size + 1) (by omega) HY3.out (treeV A L.length c next)
    rw [HE.out]
    exact ⟨A, c, rfl, q1, q2⟩
   have t0 : ((k : Int) == 0) = false := by simpa using hk0
   by_cases hkd : r.kind ≠ 1
   ·have HE : Hid (a = (L, next, 0, 68)) := by
     show _ = _
     rw [ha.out]
     unfold moveL
     rw [hf, hg]
     simp only [hrp.out]
     rw [if_neg hk0, if_pos hkd]
    have hkd' : (r.kind != 1) = true := by simpa using hkd
    clear hf hg ha hk0 hkd
    go_enter Tryz.func66, Tryz.ntmps66
    go_wp2_with fail
    rw [← hW2.out]
    refine (RFind_any L A c next id W2 HT2.out.1 HS.out (k : Int) hr1).mono ?_
    rintro ea wa ⟨rfl, hba⟩
    have HBa : Hid (Below w.heap.size w wa) := HB2.out.trans (hba.mono HB2.out.size)
    have HXa : Hid (wa.heap[w.heap.size]? = some (.cells (treeV A L.length c next) 29 (0, 0))) := (hba.block w.heap.size (by have := HZ2.out; omega)).trans HX2.out
    have HYa : Hid (wa.heap[w.heap.size + 1]? = some (.cells zeroT 29 (0, 0))) := (hba.block (w.heap.size + 1) (by have := HZ2.out; omega)).trans HY2.out
    have HTa := Lib.hid (HT2.out.below hba)
    have HZa : Hid (w.heap.size + 2 ≤ wa.heap.size) := by show _ ≤ _; have := hba.size; have := HZ2.out; omega
    have e0 : wa.cell? ⟨w.heap.size, 0, none⟩ = some (.slice A L.length c) := cell_row HXa.out 0 _ rfl
    have e1 : wa.cell? ⟨w.heap.size, 1, none⟩ = some (.int .i64 next) := cell_row HXa.out 1 _ rfl
    clear hba
    go_wp2_with fail
    refine (RFind_any L A c next to wa HTa.out.1 HS.out (p : Int) hr2).mono ?_
    rintro e3 w3 ⟨rfl, hb3⟩
    have HB3 : Hid (Below w.heap.size w w3) := HBa.out.trans (hb3.mono HBa.out.size)
    have HX3 : Hid (w3.heap[w.heap.size]? = some (.cells (treeV A L.length c next) 29 (0, 0))) := (hb3.block w.heap.size (by have := HZa.out; omega)).trans HXa.out
    have HY3 : Hid (w3.heap[w.heap.size + 1]? = some (.cells zeroT 29 (0, 0))) := (hb3.block (w.heap.size + 1) (by have := HZa.out; omega)).trans HYa.out
    have HT3 := Lib.hid (HTa.out.below hb3)
    have HZ3 : Hid (w.heap.size + 2 ≤ w3.heap.size) := by show _ ≤ _; have := hb3.size; have := HZa.out; omega
    clear hb3 e0 e1
    obtain ⟨ad, rfl⟩ := HAD.out
    obtain ⟨_, Ax, cx, _, _, _, _, k2, _, _, _⟩ := (show RowsAt X w3 w3.heap.size (some ad) L from HT3.out.1).row hrp.out
    have e0 : w3.cell? ⟨w.heap.size, 0, none⟩ = some (.slice (some ad) L.length c) := cell_row HX3.out 0 _ rfl
    go_upto_region 8 with (fail)
    clear e0 k2
    go_upto_region 8 with (fail)
    have e0 := cell_row HX3.out 0 _ rfl
    have e1 := cell_row HX3.out 1 _ rfl
    go_wp2_with (refine wpList_store_row rfl 29 (.tmp 8) (.tmp 39) rfl (w.heap.size + 1) (treeV (some ad) L.length c next) rfl rfl 29 zeroT HY3.out (by kernel_rfl) rfl (treeV_one _ _ _ _) ?_)
    try simp only [Exit.inBlock, Exit.then]
    refine bodyPost_ret (results_cellb Tryz.results66 _ _ (w.heap.size + 1) 29 (treeV (some ad) L.length c next) (0, 0) _ rfl (setRow_heap _ _ _ _ _ _ HY3.out) Tryz.underlying29 rfl (by kernel_rfl)) rfl ?_
    obtain ⟨q1, q2⟩ := HT3.out.laid HB3.out (g := w.heap.size + 1) (by omega) HY3.out (treeV (some ad) L.length c next)
    rw [HE.out]
    exact ⟨(some ad), c, rfl, q1, q2⟩
   have hkd' : (r.kind != 1) = false := by simpa using hkd
   have hmv : ¬ (k ≤ p ∧ p < E) → ∃ q, findL (withoutL L k) to = some q ∧ a = (if pl < 0 ∨ ((kidsL (withoutL L k) q).length : Int) < pl then (L, next, 0, 69) else if (partL ((L.drop k).take (E - k)) (lvlL L k - r.level - 1)).any (fun z => decide (40 ≤ z.x.level)) then (L, next, 0, 65) else (laidL (withoutL L k) (spotL (withoutL L k) q pl.toNat) (partL ((L.drop k).take (E - k)) (lvlL L k - r.level - 1)), next, 0, 0)) := fun h => by
    obtain ⟨q, hq⟩ := HFW.out (by rw [hE.out]; exact h)
    refine ⟨q, hq, ?_⟩
    rw [ha.out]
    unfold moveL
    rw [hf, hg]
    simp only [hrp.out, hE.out]
    rw [if_neg hk0, if_neg hkd, if_neg h, hq]
   have hlo : k ≤ p ∧ p < E → a = (L, next, 0, 61) := fun h => by
    rw [ha.out]
    unfold moveL
    rw [hf, hg]
    simp only [hrp.out, hE.out]
    rw [if_neg hk0, if_neg hkd, if_pos h]
   have HMV := Lib.hid hmv
   have HLO := Lib.hid hlo
   clear hf hg ha hk0 hkd hmv hlo
   go_enter Tryz.func66, Tryz.ntmps66
   go_wp2_with fail
   rw [← hW2.out]
   refine (RFind_any L A c next id W2 HT2.out.1 HS.out (k : Int) hr1).mono ?_
   rintro ea wa ⟨rfl, hba⟩
   have HBa : Hid (Below w.heap.size w wa) := HB2.out.trans (hba.mono HB2.out.size)
   have HXa : Hid (wa.heap[w.heap.size]? = some (.cells (treeV A L.length c next) 29 (0, 0))) := (hba.block w.heap.size (by have := HZ2.out; omega)).trans HX2.out
   have HYa : Hid (wa.heap[w.heap.size + 1]? = some (.cells zeroT 29 (0, 0))) := (hba.block (w.heap.size + 1) (by have := HZ2.out; omega)).trans HY2.out
   have HTa := Lib.hid (HT2.out.below hba)
   have HZa : Hid (w.heap.size + 2 ≤ wa.heap.size) := by show _ ≤ _; have := hba.size; have := HZ2.out; omega
   have e0 : wa.cell? ⟨w.heap.size, 0, none⟩ = some (.slice A L.length c) := cell_row HXa.out 0 _ rfl
   have e1 : wa.cell? ⟨w.heap.size, 1, none⟩ = some (.int .i64 next) := cell_row HXa.out 1 _ rfl
   clear hba
   go_wp2_with fail
   refine (RFind_any L A c next to wa HTa.out.1 HS.out (p : Int) hr2).mono ?_
   rintro e3 w3 ⟨rfl, hb3⟩
   have HB3 : Hid (Below w.heap.size w w3) := HBa.out.trans (hb3.mono HBa.out.size)
   have HX3 : Hid (w3.heap[w.heap.size]? = some (.cells (treeV A L.length c next) 29 (0, 0))) := (hb3.block w.heap.size (by have := HZa.out; omega)).trans HXa.out
   have HY3 : Hid (w3.heap[w.heap.size + 1]? = some (.cells zeroT 29 (0, 0))) := (hb3.block (w.heap.size + 1) (by have := HZa.out; omega)).trans HYa.out
   have HT3 := Lib.hid (HTa.out.below hb3)
   have HZ3 : Hid (w.heap.size + 2 ≤ w3.heap.size) := by show _ ≤ _; have := hb3.size; have := HZa.out; omega
   clear hb3 e0 e1
   obtain ⟨ad, rfl⟩ := HAD.out
   obtain ⟨_, Ax, cx, _, _, _, _, k2, _, _, _⟩ := (show RowsAt X w3 w3.heap.size (some ad) L from HT3.out.1).row hrp.out
   have e0 : w3.cell? ⟨w.heap.size, 0, none⟩ = some (.slice (some ad) L.length c) := cell_row HX3.out 0 _ rfl
   have e1 : w3.cell? ⟨w.heap.size, 1, none⟩ = some (.int .i64 next) := cell_row HX3.out 1 _ rfl
   have HB33 : Hid (Below w3.heap.size w3 w3) := Below.refl _ _
   go_upto_region 9 with (fail)
   clear k2
   by_cases hkp : k ≤ p
   ·have hkp' : (k : Int) ≤ (p : Int) := by omega
    go_wp2_with fail
    refine (Rend_g L (some ad) c next k w3 HT3.out.1 HS.out hk E hE).mono ?_
    rintro e4 w4 ⟨rfl, hb4⟩
    clear e0 e1
    have HB34 : Hid (Below w3.heap.size w3 w4) := HB33.out.trans (hb4.mono HB33.out.size)
    have HX4 : Hid (w4.heap[w.heap.size]? = some (.cells (treeV (some ad) L.length c next) 29 (0, 0))) := (HB34.out.block w.heap.size (by have := HZ3.out; omega)).trans HX3.out
    have HY4 : Hid (w4.heap[w.heap.size + 1]? = some (.cells zeroT 29 (0, 0))) := (HB34.out.block (w.heap.size + 1) (by have := HZ3.out; omega)).trans HY3.out
    have HT4 := Lib.hid (HT3.out.below HB34.out)
    have HB4 : Hid (Below w.heap.size w w4) := HB3.out.trans (HB34.out.mono HB3.out.size)
    clear hb4
    have E0 : (0 : Int) ≤ (E : Int) := by omega
    by_cases hpe : p < E
    ·have HE : Hid (a = (L, next, 0, 61)) := HLO.out ⟨hkp, hpe⟩
     have hpe' : (p : Int) < (E : Int) := by omega
     go_upto_region 10 with (fail)
     have e0 := cell_row HX4.out 0 _ rfl
     have e1 := cell_row HX4.out 1 _ rfl
     go_wp2_with (refine wpList_store_row rfl 29 (.tmp 8) (.tmp 50) rfl (w.heap.size + 1) (treeV (some ad) L.length c next) rfl rfl 29 zeroT HY4.out (by kernel_rfl) rfl (treeV_one _ _ _ _) ?_)
     try simp only [Exit.inBlock, Exit.then]
     refine bodyPost_ret (results_cellb Tryz.results66 _ _ (w.heap.size + 1) 29 (treeV (some ad) L.length c next) (0, 0) _ rfl (setRow_heap _ _ _ _ _ _ HY4.out) Tryz.underlying29 rfl (by kernel_rfl)) rfl ?_
     obtain ⟨q1, q2⟩ := HT4.out.laid HB4.out (g := w.heap.size + 1) (by omega) HY4.out (treeV (some ad) L.length c next)
     rw [HE.out]
     exact ⟨(some ad), c, rfl, q1, q2⟩
    have hpe' : ¬ (p : Int) < (E : Int) := by omega
    obtain ⟨q, hq, hmv⟩ := HMV.out (by omega)
    go_upto_region 11 with (fail)
    clear hpe hpe' hkp hkp'
    have HQF := Lib.hid hq
    have HMA := Lib.hid hmv
    clear hq hmv
    obtain ⟨⟨rj, x⟩, hrk⟩ : ∃ r, Hid (L[k]? = some r) := ⟨L[k], List.getElem?_eq_getElem _⟩
    have hEl := end_le hk
    rw [hE.out] at hEl
    obtain ⟨hE0, hE1⟩ := hEl
    have hcl := HT4.out.2.1
    have i1 : (k : Int) ≤ (E : Int) := by omega
    have i2 : (E : Int) ≤ (c : Int) := by omega
    have i3 : (k : Int) ≤ (c : Int) := by omega
    have i4 : (0 : Int) ≤ (E : Int) := by omega
    have i5 : k ≤ E := by omega
    have i6 : E ≤ c := by omega
    have i7 : ¬ (c = k) := by omega
    obtain ⟨b0, b1⟩ := HLV.out _ (List.mem_of_getElem? hrk.out)
    obtain ⟨b2, b3⟩ := HLV.out _ (List.mem_of_getElem? hrp.out)
    have b0' : -1000 ≤ x.level := b0
    have b1' : x.level ≤ 1000 := b1
    have b2' : -1000 ≤ r.level := b2
    have b3' : r.level ≤ 1000 := b3
    clear b0 b1 b2 b3
    have hw1 : IntKind.i64.wrap (x.level - r.level) = x.level - r.level := IntWalk.i64_in _ (by omega)
    have hw2 : IntKind.i64.wrap (x.level - r.level - 1) = x.level - r.level - 1 := IntWalk.i64_in _ (by omega)
    have hSW : Hid (∀ W : World, Below w3.heap.size w3 W → W.cell? ⟨w.heap.size, 0, none⟩ = some (.slice (some ad) L.length c) ∧ W.cell? ⟨w.heap.size, 1, none⟩ = some (.int .i64 next) ∧ W.cell? ⟨(ad.add (k * 6)).block, (ad.add (k * 6)).off + 1, none⟩ = some (.int .i64 x.level) ∧ W.cell? ⟨(ad.add (p * 6)).block, (ad.add (p * 6)).off + 1, none⟩ = some (.int .i64 r.level)) := fun W hb => by
     have hx := (hb.block w.heap.size (by have := HZ3.out; omega)).trans HX3.out
     have hr := HT3.out.1.below hb
     obtain ⟨_, _, _, _, _, _, y1, _, _, _, _⟩ := hr.row hrk.out
     obtain ⟨_, _, _, _, _, _, z1, _, _, _, _⟩ := hr.row hrp.out
     exact ⟨cell_row hx 0 _ rfl, cell_row hx 1 _ rfl, y1, z1⟩
    have hS := hSW.out w4.drew (HB34.out.trans ⟨rfl, rfl, rfl, Nat.le_refl _, fun _ _ => rfl⟩)
    refine wp_region_held_drew (S := fun W => W.cell? ⟨w.heap.size, 0, none⟩ = some (.slice (some ad) L.length c) ∧ W.cell? ⟨w.heap.size, 1, none⟩ = some (.int .i64 next) ∧ W.cell? ⟨(ad.add (k * 6)).block, (ad.add (k * 6)).off + 1, none⟩ = some (.int .i64 x.level) ∧ W.cell? ⟨(ad.add (p * 6)).block, (ad.add (p * 6)).off + 1, none⟩ = some (.int .i64 r.level)) (by kernel_rfl) hS (fun hHeld => ?_)
    refine tkv 0 (h := tkv 1 (h := tkv 2 (h := tkv 3 (h := tkv 4 (h := ?_)))))
    refine tkv 7 (h := tkv 8 (h := tkv 9 (h := tkv 10 (h := tkv 11 (h := tkv 12 (h := ?_))))))
    refine tkv 13 (h := tkv 14 (h := tkv 15 (h := tkv 16 (h := tkv 17 (h := tkv 18 (h := ?_))))))
    refine tkv 19 (h := tkv 20 (h := tkv 21 (h := tkv 22 (h := ?_))))
    have hbd : Below w4.heap.size w4 w4.drew := ⟨rfl, rfl, rfl, Nat.le_refl _, fun _ _ => rfl⟩
    obtain ⟨w5, hw5⟩ : ∃ w5, Hid (w4.drew = w5) := ⟨_, rfl⟩
    rw [hw5.out] at hbd ⊢
    have hb5 := hbd
    clear hbd
    have HB35 : Hid (Below w3.heap.size w3 w5) := HB34.out.trans (hb5.mono HB34.out.size)
    have HX5 : Hid (w5.heap[w.heap.size]? = some (.cells (treeV (some ad) L.length c next) 29 (0, 0))) := (HB35.out.block w.heap.size (by have := HZ3.out; omega)).trans HX3.out
    have HY5 : Hid (w5.heap[w.heap.size + 1]? = some (.cells zeroT 29 (0, 0))) := (HB35.out.block (w.heap.size + 1) (by have := HZ3.out; omega)).trans HY3.out
    have HT5 := Lib.hid (HT3.out.below HB35.out)
    have HB5 : Hid (Below w.heap.size w w5) := HB3.out.trans (HB35.out.mono HB3.out.size)
    clear hb5
    refine rdy 5 (fun K hK => ?_)
    go_simp
    refine (Rend_g L (some ad) c next k w5 HT5.out.1 HS.out hk E hE).mono ?_
    rintro e6 w6 ⟨rfl, hb6⟩
    have HB36 : Hid (Below w3.heap.size w3 w6) := HB35.out.trans (hb6.mono HB35.out.size)
    have HX6 : Hid (w6.heap[w.heap.size]? = some (.cells (treeV (some ad) L.length c next) 29 (0, 0))) := (HB36.out.block w.heap.size (by have := HZ3.out; omega)).trans HX3.out
    have HY6 : Hid (w6.heap[w.heap.size + 1]? = some (.cells zeroT 29 (0, 0))) := (HB36.out.block (w.heap.size + 1) (by have := HZ3.out; omega)).trans HY3.out
    have HT6 := Lib.hid (HT3.out.below HB36.out)
    have HB6 : Hid (Below w.heap.size w w6) := HB3.out.trans (HB36.out.mono HB3.out.size)
    clear hb6
    go_wp2_with fail
    refine hK.out _ _ (hSW.out w6 HB36.out) (fun hHeld => ?_)
    clear hK K
    try go_frame
    refine tkv 6 (h := ?_)
    refine rdy 23 (fun K hK => ?_)
    go_simp
    have hsub : RowsAt X w6 w6.heap.size (some (ad.add (k * 6))) ((L.drop k).take (E - k)) := HT6.out.1.sub k (E - k)
    have hsm : SmallRows ((L.drop k).take (E - k)) := by
     refine ⟨by rw [List.length_take, List.length_drop]; have := HLEN.out; omega, fun z hz => HS.out.2 z (List.mem_of_mem_drop (List.mem_of_mem_take hz))⟩
    have hlt : ((L.drop k).take (E - k)).length = E - k := by rw [List.length_take, List.length_drop]; omega
    have hpc := Rpart_g ((L.drop k).take (E - k)) (some (ad.add (k * 6))) (c - k) w6.heap.size (x.level - r.level - 1) w6 hsub (Nat.le_refl _) hsm (by omega)
    rw [hlt] at hpc
    refine hpc.mono ?_
    rintro e7 w7 ⟨A7, c7, S7, rfl, hS7, hown7, hat7, hb7⟩
    have hT7 := TreeR.of hown7 hat7 hb7 hS7 (fun b hb => HXN.out b (Nat.le_trans HB6.out.size hb))
    have hsl7 := congrArg List.length hS7
    rw [List.length_map] at hsl7
    obtain ⟨new, hnew⟩ : ∃ new, Hid (partL ((L.drop k).take (E - k)) (x.level - r.level - 1) = new) := ⟨_, rfl⟩
    have HNL : Hid (new.length ≤ L.length) := by
     show _ ≤ _
     rw [← hnew.out, part_length, hlt]
     omega
    rw [hnew.out] at hT7 hsl7
    rw [hsl7]
    have HN7 := Lib.hid hT7
    clear hown7 hat7 hS7 hsl7 hT7 hpc hsub hsm hlt hS
    have HB37 : Hid (Below w3.heap.size w3 w7) := HB36.out.trans (hb7.mono HB36.out.size)
    have HX7 : Hid (w7.heap[w.heap.size]? = some (.cells (treeV (some ad) L.length c next) 29 (0, 0))) := (HB37.out.block w.heap.size (by have := HZ3.out; omega)).trans HX3.out
    have HY7 : Hid (w7.heap[w.heap.size + 1]? = some (.cells zeroT 29 (0, 0))) := (HB37.out.block (w.heap.size + 1) (by have := HZ3.out; omega)).trans HY3.out
    have HT7 := Lib.hid (HT3.out.below HB37.out)
    have HB7 : Hid (Below w.heap.size w w7) := HB3.out.trans (HB37.out.mono HB3.out.size)
    clear hb7
    go_wp2_with fail
    refine hK.out _ _ (hSW.out w7 HB37.out) (fun hHeld => ?_)
    clear hK K
    try go_frame
    refine tkv 24 (h := ?_)
    refine wpAnyH_done (by kernel_rfl) ?_ _
    have e0 : w7.cell? ⟨w.heap.size, 0, none⟩ = some (.slice (some ad) L.length c) := cell_row HX7.out 0 _ rfl
    have e1 : w7.cell? ⟨w.heap.size, 1, none⟩ = some (.int .i64 next) := cell_row HX7.out 1 _ rfl
    go_wp2_with fail
    refine (Rwithout_g L ad c next k w7 HT7.out.1 HS.out HT7.out.2 hk).mono ?_
    rintro e8 w8 ⟨A8, c8, S8, rfl, hS8, hown8, hat8, hb8⟩
    have hT8 := TreeR.of hown8 hat8 hb8 hS8 (fun b hb => HXN.out b (Nat.le_trans HB7.out.size hb))
    have hsl8 := congrArg List.length hS8
    rw [List.length_map] at hsl8
    obtain ⟨LW, hLW⟩ : ∃ LW, Hid (withoutL L k = LW) := ⟨_, rfl⟩
    rw [hLW.out] at hT8 hsl8
    rw [hsl8]
    have HW8 := Lib.hid hT8
    have HN8 := Lib.hid (HN7.out.below hb8)
    clear hown8 hat8 hS8 hsl8 hT8 e0 e1
    have HB38 : Hid (Below w3.heap.size w3 w8) := HB37.out.trans (hb8.mono HB37.out.size)
    have HX8 : Hid (w8.heap[w.heap.size]? = some (.cells (treeV (some ad) L.length c next) 29 (0, 0))) := (HB38.out.block w.heap.size (by have := HZ3.out; omega)).trans HX3.out
    have HY8 : Hid (w8.heap[w.heap.size + 1]? = some (.cells zeroT 29 (0, 0))) := (HB38.out.block (w.heap.size + 1) (by have := HZ3.out; omega)).trans HY3.out
    have HT8 := Lib.hid (HT3.out.below HB38.out)
    have HB8 : Hid (Below w.heap.size w w8) := HB3.out.trans (HB38.out.mono HB3.out.size)
    clear hb8
    go_upto_region 13 with (fail)
    obtain ⟨w9, hw9⟩ : ∃ w9, Hid (w9 = w8.alloc (.cells #[.slice A8 LW.length c8, .int .i64 next] 29)) := ⟨_, rfl⟩
    rw [← hw9.out]
    obtain ⟨G, hG⟩ : ∃ G, Hid (w8.heap.size = G) := ⟨_, rfl⟩
    rw [hG.out]
    have hb9 : Below w8.heap.size w8 w9 := by rw [hw9.out]; exact (Below.refl _ _).alloc (Nat.le_refl _) _
    have HG9 : Hid (w9.heap[G]? = some (.cells (treeV A8 LW.length c8 next) 29 (0, 0))) := by show _ = _; rw [hw9.out, ← hG.out]; exact heap_alloc_new _ _
    have HGZ9 : Hid (G < w9.heap.size) := by show _ < _; rw [hw9.out, ← hG.out]; simp
    have HGL : Hid (w3.heap.size ≤ G) := by show _ ≤ _; rw [← hG.out]; exact HB38.out.size
    have HW9 := Lib.hid (HW8.out.below hb9)
    have HN9 := Lib.hid (HN8.out.below hb9)
    have HB39 : Hid (Below w3.heap.size w3 w9) := HB38.out.trans (hb9.mono HB38.out.size)
    have HX9 : Hid (w9.heap[w.heap.size]? = some (.cells (treeV (some ad) L.length c next) 29 (0, 0))) := (HB39.out.block w.heap.size (by have := HZ3.out; omega)).trans HX3.out
    have HY9 : Hid (w9.heap[w.heap.size + 1]? = some (.cells zeroT 29 (0, 0))) := (HB39.out.block (w.heap.size + 1) (by have := HZ3.out; omega)).trans HY3.out
    have HT9 := Lib.hid (HT3.out.below HB39.out)
    have HB9 : Hid (Below w.heap.size w w9) := HB3.out.trans (HB39.out.mono HB3.out.size)
    clear hb9
    have HSW : Hid (SmallRows LW) := by
     show SmallRows _
     rw [← hLW.out]
     refine ⟨?_, fun z hz => ?_⟩
     ·unfold withoutL
      rw [List.length_append, List.length_take, List.length_drop]
      have := HLEN.out
      omega
     ·unfold withoutL at hz
      rcases List.mem_append.1 hz with hz | hz
      ·exact HS.out.2 z (List.mem_of_mem_take hz)
      ·exact HS.out.2 z (List.mem_of_mem_drop hz)
    have hr3 : Hid (findI LW to = (q : Int)) := by
     show _ = _
     unfold findI
     rw [← hLW.out, HQF.out]
    have hq : q < LW.length := by
     have := find_lt HQF.out
     rw [hLW.out] at this
     exact this
    have g0 : w9.cell? ⟨G, 0, none⟩ = some (.slice A8 LW.length c8) := cell_row HG9.out 0 _ rfl
    have g1 : w9.cell? ⟨G, 1, none⟩ = some (.int .i64 next) := cell_row HG9.out 1 _ rfl
    go_wp2_with fail
    refine (RFind_any LW A8 c8 next to w9 HW9.out.1 HSW.out (q : Int) hr3).mono ?_
    rintro e10 w10 ⟨rfl, hb10⟩
    have HG10 : Hid (w10.heap[G]? = some (.cells (treeV A8 LW.length c8 next) 29 (0, 0))) := (hb10.block G HGZ9.out).trans HG9.out
    have HGZ10 : Hid (G < w10.heap.size) := Nat.lt_of_lt_of_le HGZ9.out hb10.size
    have HW10 := Lib.hid (HW9.out.below hb10)
    have HN10 := Lib.hid (HN9.out.below hb10)
    clear g0 g1
    have HB310 : Hid (Below w3.heap.size w3 w10) := HB39.out.trans (hb10.mono HB39.out.size)
    have HX10 : Hid (w10.heap[w.heap.size]? = some (.cells (treeV (some ad) L.length c next) 29 (0, 0))) := (HB310.out.block w.heap.size (by have := HZ3.out; omega)).trans HX3.out
    have HY10 : Hid (w10.heap[w.heap.size + 1]? = some (.cells zeroT 29 (0, 0))) := (HB310.out.block (w.heap.size + 1) (by have := HZ3.out; omega)).trans HY3.out
    have HT10 := Lib.hid (HT3.out.below HB310.out)
    have HB10 : Hid (Below w.heap.size w w10) := HB3.out.trans (HB310.out.mono HB3.out.size)
    clear hb10
    go_upto_region 14 with (fail)
    obtain ⟨kn, hkn⟩ : ∃ kn, Hid ((kidsL LW q).length = kn) := ⟨_, rfl⟩
    have HMB : Hid (a = if pl < 0 ∨ (kn : Int) < pl then (L, next, 0, 69) else if new.any (fun z => decide (40 ≤ z.x.level)) then (L, next, 0, 65) else (laidL LW (spotL LW q pl.toNat) new, next, 0, 0)) := by
     show _ = _
     rw [HMA.out, lvl_get hrk.out, ← hkn.out, ← hLW.out, ← hnew.out]
    by_cases hp0 : pl < 0
    ·have HE : Hid (a = (L, next, 0, 69)) := HMB.out.trans (if_pos (.inl hp0))
     go_upto_region 15 with (fail)
     have e0 := cell_row HX10.out 0 _ rfl
     have e1 := cell_row HX10.out 1 _ rfl
     go_wp2_with (refine wpList_store_row rfl 29 (.tmp 8) (.tmp 91) rfl (w.heap.size + 1) (treeV (some ad) L.length c next) rfl rfl 29 zeroT HY10.out (by kernel_rfl) rfl (treeV_one _ _ _ _) ?_)
     try simp only [Exit.inBlock, Exit.then]
     refine bodyPost_ret (results_cellb Tryz.results66 _ _ (w.heap.size + 1) 29 (treeV (some ad) L.length c next) (0, 0) _ rfl (setRow_heap _ _ _ _ _ _ HY10.out) Tryz.underlying29 rfl (by kernel_rfl)) rfl ?_
     obtain ⟨q1, q2⟩ := HT10.out.laid HB10.out (g := w.heap.size + 1) (by omega) HY10.out (treeV (some ad) L.length c next)
     rw [HE.out]
     exact ⟨(some ad), c, rfl, q1, q2⟩
    obtain ⟨pn, rfl⟩ : ∃ pn : Nat, pl = (pn : Int) := ⟨pl.toNat, by omega⟩
    have pn0 : (0 : Int) ≤ (pn : Int) := by omega
    clear hp0
    have g0 : w10.cell? ⟨G, 0, none⟩ = some (.slice A8 LW.length c8) := cell_row HG10.out 0 _ rfl
    have g1 : w10.cell? ⟨G, 1, none⟩ = some (.int .i64 next) := cell_row HG10.out 1 _ rfl
    go_wp2_with fail
    refine (Rkids_g LW A8 c8 next q w10 HW10.out.1 HSW.out hq).mono ?_
    rintro e11 w11 ⟨A11, c11, rfl, _, hb11⟩
    have hkn' : ((ints (kidsL LW q)).length : Int) = (kn : Int) := by rw [ints_length, hkn.out]
    have kn0 : (0 : Int) ≤ (kn : Int) := by omega
    have HG11 : Hid (w11.heap[G]? = some (.cells (treeV A8 LW.length c8 next) 29 (0, 0))) := (hb11.block G HGZ10.out).trans HG10.out
    have HGZ11 : Hid (G < w11.heap.size) := Nat.lt_of_lt_of_le HGZ10.out hb11.size
    have HW11 := Lib.hid (HW10.out.below hb11)
    have HN11 := Lib.hid (HN10.out.below hb11)
    clear g0 g1
    have HB311 : Hid (Below w3.heap.size w3 w11) := HB310.out.trans (hb11.mono HB310.out.size)
    have HX11 : Hid (w11.heap[w.heap.size]? = some (.cells (treeV (some ad) L.length c next) 29 (0, 0))) := (HB311.out.block w.heap.size (by have := HZ3.out; omega)).trans HX3.out
    have HY11 : Hid (w11.heap[w.heap.size + 1]? = some (.cells zeroT 29 (0, 0))) := (HB311.out.block (w.heap.size + 1) (by have := HZ3.out; omega)).trans HY3.out
    have HT11 := Lib.hid (HT3.out.below HB311.out)
    have HB11 : Hid (Below w.heap.size w w11) := HB3.out.trans (HB311.out.mono HB3.out.size)
    clear hb11
    by_cases hp1 : (kn : Int) < (pn : Int)
    ·have HE : Hid (a = (L, next, 0, 69)) := HMB.out.trans (if_pos (.inr hp1))
     go_upto_region 15 with (fail)
     have e0 := cell_row HX11.out 0 _ rfl
     have e1 := cell_row HX11.out 1 _ rfl
     go_wp2_with (refine wpList_store_row rfl 29 (.tmp 8) (.tmp 91) rfl (w.heap.size + 1) (treeV (some ad) L.length c next) rfl rfl 29 zeroT HY11.out (by kernel_rfl) rfl (treeV_one _ _ _ _) ?_)
     try simp only [Exit.inBlock, Exit.then]
     refine bodyPost_ret (results_cellb Tryz.results66 _ _ (w.heap.size + 1) 29 (treeV (some ad) L.length c next) (0, 0) _ rfl (setRow_heap _ _ _ _ _ _ HY11.out) Tryz.underlying29 rfl (by kernel_rfl)) rfl ?_
     obtain ⟨q1, q2⟩ := HT11.out.laid HB11.out (g := w.heap.size + 1) (by omega) HY11.out (treeV (some ad) L.length c next)
     rw [HE.out]
     exact ⟨(some ad), c, rfl, q1, q2⟩
    replace HMB := Lib.hid (HMB.out.trans (if_neg (by omega)))
    go_wp2_with fail
    go_loopw [14] (fun i wr => ∃ j : Nat, j ≤ new.length ∧ i = .int .i64 (j : Int) ∧ Hid (∀ i z, i < j → new[i]? = some z → ¬ 40 ≤ z.x.level) ∧ Hid (Below w11.heap.size w11 wr)) (fun i _ => new.length - (intOf i).toNat)
    case atStart => exact ⟨0, Nat.zero_le _, rfl, fun j z hj => by omega, Below.refl _ _⟩
    case round =>
     obtain ⟨j, hj, rfl, hno, hbel⟩ := hrel
     have hbr := hbel.out
     have HB3r : Hid (Below w3.heap.size w3 wr) := HB311.out.trans (hbr.mono HB311.out.size)
     have HXr : Hid (wr.heap[w.heap.size]? = some (.cells (treeV (some ad) L.length c next) 29 (0, 0))) := (HB3r.out.block w.heap.size (by have := HZ3.out; omega)).trans HX3.out
     have HYr : Hid (wr.heap[w.heap.size + 1]? = some (.cells zeroT 29 (0, 0))) := (HB3r.out.block (w.heap.size + 1) (by have := HZ3.out; omega)).trans HY3.out
     have HTr := Lib.hid (HT3.out.below HB3r.out)
     have HBr : Hid (Below w.heap.size w wr) := HB3.out.trans (HB3r.out.mono HB3.out.size)
     clear hbr
     have hnl0 : (new.length : Int) ≤ 100000 := by have := HNL.out; omega
     by_cases hlt : j < new.length
     ·have hlt' : (j : Int) < (new.length : Int) := by omega
      have j0 : (0 : Int) ≤ (j : Int) := by omega
      obtain ⟨z, hz⟩ : ∃ z, Hid (new[j]? = some z) := ⟨new[j], List.getElem?_eq_getElem _⟩
      obtain ⟨an, hAn, _⟩ := (HN11.out.below hbel.out).1 (by omega)
      subst hAn
      obtain ⟨_, Az, cz, _, _, _, z1, _, _, _, _⟩ := (HN11.out.below hbel.out).1.row hz.out
      by_cases h40 : 40 ≤ z.x.level
      ·have HE : Hid (a = (L, next, 0, 65)) := HMB.out.trans (if_pos (List.any_eq_true.2 ⟨z, List.mem_of_getElem? hz.out, decide_eq_true h40⟩))
       go_upto_region 20 with (fail)
       clear z1
       go_upto_region 20 with (fail)
       have e0 := cell_row HXr.out 0 _ rfl
       have e1 := cell_row HXr.out 1 _ rfl
       go_wp2_with (refine wpList_store_row rfl 29 (.tmp 8) (.tmp 105) rfl (w.heap.size + 1) (treeV (some ad) L.length c next) rfl rfl 29 zeroT HYr.out (by kernel_rfl) rfl (treeV_one _ _ _ _) ?_)
       try simp only [Exit.inBlock, Exit.then]
       refine bodyPost_ret (results_cellb Tryz.results66 _ _ (w.heap.size + 1) 29 (treeV (some ad) L.length c next) (0, 0) _ rfl (setRow_heap _ _ _ _ _ _ HYr.out) Tryz.underlying29 rfl (by kernel_rfl)) rfl ?_
       obtain ⟨q1, q2⟩ := HTr.out.laid HBr.out (g := w.heap.size + 1) (by omega) HYr.out (treeV (some ad) L.length c next)
       rw [HE.out]
       exact ⟨(some ad), c, rfl, q1, q2⟩
      ·have hno' : Hid (∀ i z, i < j + 1 → new[i]? = some z → ¬ 40 ≤ z.x.level) := fun i z' hi hz' => by
        by_cases e : i = j
        ·subst e; rw [hz.out] at hz'; injection hz' with hz'; rw [← hz']; exact h40
        ·exact hno.out i z' (by omega) hz'
       go_wp2_with fail
       go_roundw
       case rel => exact ⟨j + 1, by omega, by go_num, hno'.out, hbel.out⟩
       case measure => simp [intOf]; omega
     ·have hlt' : ¬ (j : Int) < (new.length : Int) := by omega
      obtain ⟨sp, hsp⟩ : ∃ sp, Hid (spotL LW q pn = sp) := ⟨_, rfl⟩
      have HE : Hid (a = (laidL LW sp new, next, 0, 0)) := HMB.out.trans ((if_neg (fun h => by
       obtain ⟨z, hz, h⟩ := List.any_eq_true.1 h
       obtain ⟨i, hi, rfl⟩ := List.mem_iff_getElem.1 hz
       exact hno.out i _ (by omega) (List.getElem?_eq_getElem hi) (of_decide_eq_true h))).trans (by rw [← hsp.out]; rfl))
      have HBD : Hid (∃ bd, A8 = some bd) := by
       obtain ⟨bd, hA, _⟩ := HW11.out.1 (by have := hq; omega)
       exact ⟨bd, hA⟩
      obtain ⟨bd, rfl⟩ := HBD.out
      have HPN : Hid (pn ≤ 1000000 ∧ sp ≤ LW.length) := by
       have h1 := posL_len (lvlL LW q + 1) (belowL LW q) (q + 1)
       have h2 := end_le hq
       have h3 : endL LW q = q + 1 + (belowL LW q).length := rfl
       have h5 : (kidsL LW q).length = (posL (lvlL LW q + 1) (q + 1) (belowL LW q)).length := rfl
       have h6 := hkn.out
       have h7 := HSW.out.1
       have h8 := hp1
       refine ⟨by omega, ?_⟩
       rw [← hsp.out]
       exact spot_le hq
      have HLWL : Hid (LW.length ≤ L.length) := by
       show _ ≤ _
       rw [← hLW.out]
       unfold withoutL
       rw [List.length_append, List.length_take, List.length_drop]
       have := end_le hk
       omega
      go_upto_region 21 with (fail)
      have hGr : Hid (∀ W : World, Below w11.heap.size w11 W → W.cell? ⟨G, 0, none⟩ = some (.slice (some bd) LW.length c8) ∧ W.cell? ⟨G, 1, none⟩ = some (.int .i64 next)) := fun W hb => by
       have hx := (hb.block G HGZ11.out).trans HG11.out
       exact ⟨cell_row hx 0 _ rfl, cell_row hx 1 _ rfl⟩
      have hbd : Below wr.heap.size wr wr.drew := ⟨rfl, rfl, rfl, Nat.le_refl _, fun _ _ => rfl⟩
      have HBD12 : Hid (Below w11.heap.size w11 wr.drew) := hbel.out.trans (hbd.mono hbel.out.size)
      have hS := hGr.out wr.drew HBD12.out
      refine wp_region_held_drew (S := fun W => W.cell? ⟨G, 0, none⟩ = some (.slice (some bd) LW.length c8) ∧ W.cell? ⟨G, 1, none⟩ = some (.int .i64 next)) (by kernel_rfl) hS (fun hHeld => ?_)
      clear hS
      refine tkv 0 (h := tkv 1 (h := tkv 2 (h := tkv 3 (h := ?_))))
      refine tkv 5 (h := ?_)
      obtain ⟨w12, hw12⟩ : ∃ w12, Hid (wr.drew = w12) := ⟨_, rfl⟩
      rw [hw12.out] at hbd HBD12 ⊢
      have hb12 := hbd
      clear hbd
      have HB312 : Hid (Below w3.heap.size w3 w12) := HB3r.out.trans (hb12.mono HB3r.out.size)
      have HX12 : Hid (w12.heap[w.heap.size]? = some (.cells (treeV (some ad) L.length c next) 29 (0, 0))) := (HB312.out.block w.heap.size (by have := HZ3.out; omega)).trans HX3.out
      have HY12 : Hid (w12.heap[w.heap.size + 1]? = some (.cells zeroT 29 (0, 0))) := (HB312.out.block (w.heap.size + 1) (by have := HZ3.out; omega)).trans HY3.out
      have HT12 := Lib.hid (HT3.out.below HB312.out)
      have HB12 : Hid (Below w.heap.size w w12) := HB3.out.trans (HB312.out.mono HB3.out.size)
      clear hb12
      refine rdy 4 (fun K hK => ?_)
      go_simp
      refine (Rspot_g LW (some bd) c8 next q pn w12 (HW11.out.below HBD12.out).1 HSW.out hq HPN.out.1 sp hsp).mono ?_
      rintro e13 w13 ⟨rfl, hb13⟩
      have HBD13 : Hid (Below w11.heap.size w11 w13) := HBD12.out.trans (hb13.mono HBD12.out.size)
      have HB313 : Hid (Below w3.heap.size w3 w13) := HB312.out.trans (hb13.mono HB312.out.size)
      have HX13 : Hid (w13.heap[w.heap.size]? = some (.cells (treeV (some ad) L.length c next) 29 (0, 0))) := (HB313.out.block w.heap.size (by have := HZ3.out; omega)).trans HX3.out
      have HY13 : Hid (w13.heap[w.heap.size + 1]? = some (.cells zeroT 29 (0, 0))) := (HB313.out.block (w.heap.size + 1) (by have := HZ3.out; omega)).trans HY3.out
      have HT13 := Lib.hid (HT3.out.below HB313.out)
      have HB13 : Hid (Below w.heap.size w w13) := HB3.out.trans (HB313.out.mono HB3.out.size)
      clear hb13
      go_wp2_with fail
      refine hK.out _ _ (hGr.out w13 HBD13.out) (fun hHeld => ?_)
      clear hK K
      try go_frame
      refine rdy 6 (fun K hK => ?_)
      go_simp
      refine (Rlaid_g LW bd c8 next sp new A7 c7 w13 (HW11.out.below HBD13.out).1 HSW.out HW11.out.2 (HN11.out.below HBD13.out).1 (by have := HNL.out; omega) HPN.out.2 (by have := HLWL.out; omega)).mono ?_
      rintro e14 w14 ⟨A9, c9, S9, rfl, hS9, hown9, hat9, hb14⟩
      have hT9 := TreeR.of hown9 hat9 hb14 hS9 (fun b hb => HXN.out b (Nat.le_trans HB13.out.size hb))
      have hsl9 := congrArg List.length hS9
      rw [List.length_map] at hsl9
      obtain ⟨L', hL'⟩ : ∃ L', Hid (laidL LW sp new = L') := ⟨_, rfl⟩
      rw [hL'.out] at hT9 hsl9
      rw [hsl9]
      have HT9 := Lib.hid hT9
      have HBD14 : Hid (Below w11.heap.size w11 w14) := HBD13.out.trans (hb14.mono HBD13.out.size)
      clear hown9 hat9 hS9 hsl9 hT9
      have HB314 : Hid (Below w3.heap.size w3 w14) := HB313.out.trans (hb14.mono HB313.out.size)
      have HX14 : Hid (w14.heap[w.heap.size]? = some (.cells (treeV (some ad) L.length c next) 29 (0, 0))) := (HB314.out.block w.heap.size (by have := HZ3.out; omega)).trans HX3.out
      have HY14 : Hid (w14.heap[w.heap.size + 1]? = some (.cells zeroT 29 (0, 0))) := (HB314.out.block (w.heap.size + 1) (by have := HZ3.out; omega)).trans HY3.out
      have HT14 := Lib.hid (HT3.out.below HB314.out)
      have HB14 : Hid (Below w.heap.size w w14) := HB3.out.trans (HB314.out.mono HB3.out.size)
      clear hb14
      go_wp2_with fail
      refine hK.out _ _ (hGr.out w14 HBD14.out) (fun hHeld => ?_)
      clear hK K
      try go_frame
      refine rdy 7 (fun K hK => ?_)
      refine step_store_row rfl 29 (.tmp 8) (.tmp 112) rfl (w.heap.size + 1) (treeV A9 L'.length c9 next) rfl rfl 29 zeroT HY14.out (by kernel_rfl) rfl (treeV_one _ _ _ _) ?_
      obtain ⟨q1, q2⟩ := HT9.out.laid HB14.out (g := w.heap.size + 1) (by omega) HY14.out (treeV A9 L'.length c9 next)
      have HQ1 := Lib.hid q1
      have HQ2 := Lib.hid q2
      obtain ⟨w15, hw15⟩ : ∃ w15, Hid (w14.setRow (w.heap.size + 1) (treeV A9 L'.length c9 next) = w15) := ⟨_, rfl⟩
      have hg15 : w15.heap[G]? = some (.cells (treeV (some bd) LW.length c8 next) 29 (0, 0)) := by
       rw [← hw15.out, setRow_other _ _ _ _ (by have := HGL.out; have := HZ3.out; omega)]
       exact (HBD14.out.block G HGZ11.out).trans HG11.out
      have hS15 : Hid (w15.cell? ⟨G, 0, none⟩ = some (.slice (some bd) LW.length c8) ∧ w15.cell? ⟨G, 1, none⟩ = some (.int .i64 next)) := ⟨cell_row hg15 0 _ rfl, cell_row hg15 1 _ rfl⟩
      have HY15 : Hid (w15.heap[w.heap.size + 1]? = some (.cells (treeV A9 L'.length c9 next) 29 (0, 0))) := by show _ = _; rw [← hw15.out]; exact setRow_heap _ _ _ _ _ _ HY14.out
      rw [hw15.out] at HQ1 HQ2 ⊢
      clear q1 q2 hg15
      refine hK.out _ _ (hS15.out) (fun hHeld => ?_)
      clear hK K
      try go_frame
      refine tkv 8 (h := ?_)
      refine wpAnyH_done (by kernel_rfl) ?_ _
      go_wp2_with fail
      refine bodyPost_ret (results_cellb Tryz.results66 _ _ (w.heap.size + 1) 29 (treeV A9 L'.length c9 next) (0, 0) _ rfl HY15.out Tryz.underlying29 rfl (by kernel_rfl)) rfl ?_
      rw [HE.out, hL'.out]
      exact ⟨A9, c9, rfl, HQ1.out, HQ2.out⟩
   ·have hkp' : ¬ (k : Int) ≤ (p : Int) := by omega
    obtain ⟨q, hq, hmv⟩ := HMV.out (by omega)
    go_upto_region 11 with (fail)
    clear hkp hkp' e0 e1
    obtain ⟨w4, hw4⟩ : ∃ w4, Hid (w4 = w3) := ⟨_, rfl⟩
    have hb4 : Below w3.heap.size w3 w4 := by rw [hw4.out]; exact Below.refl _ _
    have HB34 : Hid (Below w3.heap.size w3 w4) := HB33.out.trans (hb4.mono HB33.out.size)
    have HX4 : Hid (w4.heap[w.heap.size]? = some (.cells (treeV (some ad) L.length c next) 29 (0, 0))) := (HB34.out.block w.heap.size (by have := HZ3.out; omega)).trans HX3.out
    have HY4 : Hid (w4.heap[w.heap.size + 1]? = some (.cells zeroT 29 (0, 0))) := (HB34.out.block (w.heap.size + 1) (by have := HZ3.out; omega)).trans HY3.out
    have HT4 := Lib.hid (HT3.out.below HB34.out)
    have HB4 : Hid (Below w.heap.size w w4) := HB3.out.trans (HB34.out.mono HB3.out.size)
    clear hb4
    rw [← hw4.out]
    have HQF := Lib.hid hq
    have HMA := Lib.hid hmv
    clear hq hmv
    obtain ⟨⟨rj, x⟩, hrk⟩ : ∃ r, Hid (L[k]? = some r) := ⟨L[k], List.getElem?_eq_getElem _⟩
    have hEl := end_le hk
    rw [hE.out] at hEl
    obtain ⟨hE0, hE1⟩ := hEl
    have hcl := HT4.out.2.1
    have i1 : (k : Int) ≤ (E : Int) := by omega
    have i2 : (E : Int) ≤ (c : Int) := by omega
    have i3 : (k : Int) ≤ (c : Int) := by omega
    have i4 : (0 : Int) ≤ (E : Int) := by omega
    have i5 : k ≤ E := by omega
    have i6 : E ≤ c := by omega
    have i7 : ¬ (c = k) := by omega
    obtain ⟨b0, b1⟩ := HLV.out _ (List.mem_of_getElem? hrk.out)
    obtain ⟨b2, b3⟩ := HLV.out _ (List.mem_of_getElem? hrp.out)
    have b0' : -1000 ≤ x.level := b0
    have b1' : x.level ≤ 1000 := b1
    have b2' : -1000 ≤ r.level := b2
    have b3' : r.level ≤ 1000 := b3
    clear b0 b1 b2 b3
    have hw1 : IntKind.i64.wrap (x.level - r.level) = x.level - r.level := IntWalk.i64_in _ (by omega)
    have hw2 : IntKind.i64.wrap (x.level - r.level - 1) = x.level - r.level - 1 := IntWalk.i64_in _ (by omega)
    have hSW : Hid (∀ W : World, Below w3.heap.size w3 W → W.cell? ⟨w.heap.size, 0, none⟩ = some (.slice (some ad) L.length c) ∧ W.cell? ⟨w.heap.size, 1, none⟩ = some (.int .i64 next) ∧ W.cell? ⟨(ad.add (k * 6)).block, (ad.add (k * 6)).off + 1, none⟩ = some (.int .i64 x.level) ∧ W.cell? ⟨(ad.add (p * 6)).block, (ad.add (p * 6)).off + 1, none⟩ = some (.int .i64 r.level)) := fun W hb => by
     have hx := (hb.block w.heap.size (by have := HZ3.out; omega)).trans HX3.out
     have hr := HT3.out.1.below hb
     obtain ⟨_, _, _, _, _, _, y1, _, _, _, _⟩ := hr.row hrk.out
     obtain ⟨_, _, _, _, _, _, z1, _, _, _, _⟩ := hr.row hrp.out
     exact ⟨cell_row hx 0 _ rfl, cell_row hx 1 _ rfl, y1, z1⟩
    have hS := hSW.out w4.drew (HB34.out.trans ⟨rfl, rfl, rfl, Nat.le_refl _, fun _ _ => rfl⟩)
    refine wp_region_held_drew (S := fun W => W.cell? ⟨w.heap.size, 0, none⟩ = some (.slice (some ad) L.length c) ∧ W.cell? ⟨w.heap.size, 1, none⟩ = some (.int .i64 next) ∧ W.cell? ⟨(ad.add (k * 6)).block, (ad.add (k * 6)).off + 1, none⟩ = some (.int .i64 x.level) ∧ W.cell? ⟨(ad.add (p * 6)).block, (ad.add (p * 6)).off + 1, none⟩ = some (.int .i64 r.level)) (by kernel_rfl) hS (fun hHeld => ?_)
    refine tkv 0 (h := tkv 1 (h := tkv 2 (h := tkv 3 (h := tkv 4 (h := ?_)))))
    refine tkv 7 (h := tkv 8 (h := tkv 9 (h := tkv 10 (h := tkv 11 (h := tkv 12 (h := ?_))))))
    refine tkv 13 (h := tkv 14 (h := tkv 15 (h := tkv 16 (h := tkv 17 (h := tkv 18 (h := ?_))))))
    refine tkv 19 (h := tkv 20 (h := tkv 21 (h := tkv 22 (h := ?_))))
    have hbd : Below w4.heap.size w4 w4.drew := ⟨rfl, rfl, rfl, Nat.le_refl _, fun _ _ => rfl⟩
    obtain ⟨w5, hw5⟩ : ∃ w5, Hid (w4.drew = w5) := ⟨_, rfl⟩
    rw [hw5.out] at hbd ⊢
    have hb5 := hbd
    clear hbd
    have HB35 : Hid (Below w3.heap.size w3 w5) := HB34.out.trans (hb5.mono HB34.out.size)
    have HX5 : Hid (w5.heap[w.heap.size]? = some (.cells (treeV (some ad) L.length c next) 29 (0, 0))) := (HB35.out.block w.heap.size (by have := HZ3.out; omega)).trans HX3.out
    have HY5 : Hid (w5.heap[w.heap.size + 1]? = some (.cells zeroT 29 (0, 0))) := (HB35.out.block (w.heap.size + 1) (by have := HZ3.out; omega)).trans HY3.out
    have HT5 := Lib.hid (HT3.out.below HB35.out)
    have HB5 : Hid (Below w.heap.size w w5) := HB3.out.trans (HB35.out.mono HB3.out.size)
    clear hb5
    refine rdy 5 (fun K hK => ?_)
    go_simp
    refine (Rend_g L (some ad) c next k w5 HT5.out.1 HS.out hk E hE).mono ?_
    rintro e6 w6 ⟨rfl, hb6⟩
    have HB36 : Hid (Below w3.heap.size w3 w6) := HB35.out.trans (hb6.mono HB35.out.size)
    have HX6 : Hid (w6.heap[w.heap.size]? = some (.cells (treeV (some ad) L.length c next) 29 (0, 0))) := (HB36.out.block w.heap.size (by have := HZ3.out; omega)).trans HX3.out
    have HY6 : Hid (w6.heap[w.heap.size + 1]? = some (.cells zeroT 29 (0, 0))) := (HB36.out.block (w.heap.size + 1) (by have := HZ3.out; omega)).trans HY3.out
    have HT6 := Lib.hid (HT3.out.below HB36.out)
    have HB6 : Hid (Below w.heap.size w w6) := HB3.out.trans (HB36.out.mono HB3.out.size)
    clear hb6
    go_wp2_with fail
    refine hK.out _ _ (hSW.out w6 HB36.out) (fun hHeld => ?_)
    clear hK K
    try go_frame
    refine tkv 6 (h := ?_)
    refine rdy 23 (fun K hK => ?_)
    go_simp
    have hsub : RowsAt X w6 w6.heap.size (some (ad.add (k * 6))) ((L.drop k).take (E - k)) := HT6.out.1.sub k (E - k)
    have hsm : SmallRows ((L.drop k).take (E - k)) := by
     refine ⟨by rw [List.length_take, List.length_drop]; have := HLEN.out; omega, fun z hz => HS.out.2 z (List.mem_of_mem_drop (List.mem_of_mem_take hz))⟩
    have hlt : ((L.drop k).take (E - k)).length = E - k := by rw [List.length_take, List.length_drop]; omega
    have hpc := Rpart_g ((L.drop k).take (E - k)) (some (ad.add (k * 6))) (c - k) w6.heap.size (x.level - r.level - 1) w6 hsub (Nat.le_refl _) hsm (by omega)
    rw [hlt] at hpc
    refine hpc.mono ?_
    rintro e7 w7 ⟨A7, c7, S7, rfl, hS7, hown7, hat7, hb7⟩
    have hT7 := TreeR.of hown7 hat7 hb7 hS7 (fun b hb => HXN.out b (Nat.le_trans HB6.out.size hb))
    have hsl7 := congrArg List.length hS7
    rw [List.length_map] at hsl7
    obtain ⟨new, hnew⟩ : ∃ new, Hid (partL ((L.drop k).take (E - k)) (x.level - r.level - 1) = new) := ⟨_, rfl⟩
    have HNL : Hid (new.length ≤ L.length) := by
     show _ ≤ _
     rw [← hnew.out, part_length, hlt]
     omega
    rw [hnew.out] at hT7 hsl7
    rw [hsl7]
    have HN7 := Lib.hid hT7
    clear hown7 hat7 hS7 hsl7 hT7 hpc hsub hsm hlt hS
    have HB37 : Hid (Below w3.heap.size w3 w7) := HB36.out.trans (hb7.mono HB36.out.size)
    have HX7 : Hid (w7.heap[w.heap.size]? = some (.cells (treeV (some ad) L.length c next) 29 (0, 0))) := (HB37.out.block w.heap.size (by have := HZ3.out; omega)).trans HX3.out
    have HY7 : Hid (w7.heap[w.heap.size + 1]? = some (.cells zeroT 29 (0, 0))) := (HB37.out.block (w.heap.size + 1) (by have := HZ3.out; omega)).trans HY3.out
    have HT7 := Lib.hid (HT3.out.below HB37.out)
    have HB7 : Hid (Below w.heap.size w w7) := HB3.out.trans (HB37.out.mono HB3.out.size)
    clear hb7
    go_wp2_with fail
    refine hK.out _ _ (hSW.out w7 HB37.out) (fun hHeld => ?_)
    clear hK K
    try go_frame
    refine tkv 24 (h := ?_)
    refine wpAnyH_done (by kernel_rfl) ?_ _
    have e0 : w7.cell? ⟨w.heap.size, 0, none⟩ = some (.slice (some ad) L.length c) := cell_row HX7.out 0 _ rfl
    have e1 : w7.cell? ⟨w.heap.size, 1, none⟩ = some (.int .i64 next) := cell_row HX7.out 1 _ rfl
    go_wp2_with fail
    refine (Rwithout_g L ad c next k w7 HT7.out.1 HS.out HT7.out.2 hk).mono ?_
    rintro e8 w8 ⟨A8, c8, S8, rfl, hS8, hown8, hat8, hb8⟩
    have hT8 := TreeR.of hown8 hat8 hb8 hS8 (fun b hb => HXN.out b (Nat.le_trans HB7.out.size hb))
    have hsl8 := congrArg List.length hS8
    rw [List.length_map] at hsl8
    obtain ⟨LW, hLW⟩ : ∃ LW, Hid (withoutL L k = LW) := ⟨_, rfl⟩
    rw [hLW.out] at hT8 hsl8
    rw [hsl8]
    have HW8 := Lib.hid hT8
    have HN8 := Lib.hid (HN7.out.below hb8)
    clear hown8 hat8 hS8 hsl8 hT8 e0 e1
    have HB38 : Hid (Below w3.heap.size w3 w8) := HB37.out.trans (hb8.mono HB37.out.size)
    have HX8 : Hid (w8.heap[w.heap.size]? = some (.cells (treeV (some ad) L.length c next) 29 (0, 0))) := (HB38.out.block w.heap.size (by have := HZ3.out; omega)).trans HX3.out
    have HY8 : Hid (w8.heap[w.heap.size + 1]? = some (.cells zeroT 29 (0, 0))) := (HB38.out.block (w.heap.size + 1) (by have := HZ3.out; omega)).trans HY3.out
    have HT8 := Lib.hid (HT3.out.below HB38.out)
    have HB8 : Hid (Below w.heap.size w w8) := HB3.out.trans (HB38.out.mono HB3.out.size)
    clear hb8
    go_upto_region 13 with (fail)
    obtain ⟨w9, hw9⟩ : ∃ w9, Hid (w9 = w8.alloc (.cells #[.slice A8 LW.length c8, .int .i64 next] 29)) := ⟨_, rfl⟩
    rw [← hw9.out]
    obtain ⟨G, hG⟩ : ∃ G, Hid (w8.heap.size = G) := ⟨_, rfl⟩
    rw [hG.out]
    have hb9 : Below w8.heap.size w8 w9 := by rw [hw9.out]; exact (Below.refl _ _).alloc (Nat.le_refl _) _
    have HG9 : Hid (w9.heap[G]? = some (.cells (treeV A8 LW.length c8 next) 29 (0, 0))) := by show _ = _; rw [hw9.out, ← hG.out]; exact heap_alloc_new _ _
    have HGZ9 : Hid (G < w9.heap.size) := by show _ < _; rw [hw9.out, ← hG.out]; simp
    have HGL : Hid (w3.heap.size ≤ G) := by show _ ≤ _; rw [← hG.out]; exact HB38.out.size
    have HW9 := Lib.hid (HW8.out.below hb9)
    have HN9 := Lib.hid (HN8.out.below hb9)
    have HB39 : Hid (Below w3.heap.size w3 w9) := HB38.out.trans (hb9.mono HB38.out.size)
    have HX9 : Hid (w9.heap[w.heap.size]? = some (.cells (treeV (some ad) L.length c next) 29 (0, 0))) := (HB39.out.block w.heap.size (by have := HZ3.out; omega)).trans HX3.out
    have HY9 : Hid (w9.heap[w.heap.size + 1]? = some (.cells zeroT 29 (0, 0))) := (HB39.out.block (w.heap.size + 1) (by have := HZ3.out; omega)).trans HY3.out
    have HT9 := Lib.hid (HT3.out.below HB39.out)
    have HB9 : Hid (Below w.heap.size w w9) := HB3.out.trans (HB39.out.mono HB3.out.size)
    clear hb9
    have HSW : Hid (SmallRows LW) := by
     show SmallRows _
     rw [← hLW.out]
     refine ⟨?_, fun z hz => ?_⟩
     ·unfold withoutL
      rw [List.length_append, List.length_take, List.length_drop]
      have := HLEN.out
      omega
     ·unfold withoutL at hz
      rcases List.mem_append.1 hz with hz | hz
      ·exact HS.out.2 z (List.mem_of_mem_take hz)
      ·exact HS.out.2 z (List.mem_of_mem_drop hz)
    have hr3 : Hid (findI LW to = (q : Int)) := by
     show _ = _
     unfold findI
     rw [← hLW.out, HQF.out]
    have hq : q < LW.length := by
     have := find_lt HQF.out
     rw [hLW.out] at this
     exact this
    have g0 : w9.cell? ⟨G, 0, none⟩ = some (.slice A8 LW.length c8) := cell_row HG9.out 0 _ rfl
    have g1 : w9.cell? ⟨G, 1, none⟩ = some (.int .i64 next) := cell_row HG9.out 1 _ rfl
    go_wp2_with fail
    refine (RFind_any LW A8 c8 next to w9 HW9.out.1 HSW.out (q : Int) hr3).mono ?_
    rintro e10 w10 ⟨rfl, hb10⟩
    have HG10 : Hid (w10.heap[G]? = some (.cells (treeV A8 LW.length c8 next) 29 (0, 0))) := (hb10.block G HGZ9.out).trans HG9.out
    have HGZ10 : Hid (G < w10.heap.size) := Nat.lt_of_lt_of_le HGZ9.out hb10.size
    have HW10 := Lib.hid (HW9.out.below hb10)
    have HN10 := Lib.hid (HN9.out.below hb10)
    clear g0 g1
    have HB310 : Hid (Below w3.heap.size w3 w10) := HB39.out.trans (hb10.mono HB39.out.size)
    have HX10 : Hid (w10.heap[w.heap.size]? = some (.cells (treeV (some ad) L.length c next) 29 (0, 0))) := (HB310.out.block w.heap.size (by have := HZ3.out; omega)).trans HX3.out
    have HY10 : Hid (w10.heap[w.heap.size + 1]? = some (.cells zeroT 29 (0, 0))) := (HB310.out.block (w.heap.size + 1) (by have := HZ3.out; omega)).trans HY3.out
    have HT10 := Lib.hid (HT3.out.below HB310.out)
    have HB10 : Hid (Below w.heap.size w w10) := HB3.out.trans (HB310.out.mono HB3.out.size)
    clear hb10
    go_upto_region 14 with (fail)
    obtain ⟨kn, hkn⟩ : ∃ kn, Hid ((kidsL LW q).length = kn) := ⟨_, rfl⟩
    have HMB : Hid (a = if pl < 0 ∨ (kn : Int) < pl then (L, next, 0, 69) else if new.any (fun z => decide (40 ≤ z.x.level)) then (L, next, 0, 65) else (laidL LW (spotL LW q pl.toNat) new, next, 0, 0)) := by
     show _ = _
     rw [HMA.out, lvl_get hrk.out, ← hkn.out, ← hLW.out, ← hnew.out]
    by_cases hp0 : pl < 0
    ·have HE : Hid (a = (L, next, 0, 69)) := HMB.out.trans (if_pos (.inl hp0))
     go_upto_region 15 with (fail)
     have e0 := cell_row HX10.out 0 _ rfl
     have e1 := cell_row HX10.out 1 _ rfl
     go_wp2_with (refine wpList_store_row rfl 29 (.tmp 8) (.tmp 91) rfl (w.heap.size + 1) (treeV (some ad) L.length c next) rfl rfl 29 zeroT HY10.out (by kernel_rfl) rfl (treeV_one _ _ _ _) ?_)
     try simp only [Exit.inBlock, Exit.then]
     refine bodyPost_ret (results_cellb Tryz.results66 _ _ (w.heap.size + 1) 29 (treeV (some ad) L.length c next) (0, 0) _ rfl (setRow_heap _ _ _ _ _ _ HY10.out) Tryz.underlying29 rfl (by kernel_rfl)) rfl ?_
     obtain ⟨q1, q2⟩ := HT10.out.laid HB10.out (g := w.heap.size + 1) (by omega) HY10.out (treeV (some ad) L.length c next)
     rw [HE.out]
     exact ⟨(some ad), c, rfl, q1, q2⟩
    obtain ⟨pn, rfl⟩ : ∃ pn : Nat, pl = (pn : Int) := ⟨pl.toNat, by omega⟩
    have pn0 : (0 : Int) ≤ (pn : Int) := by omega
    clear hp0
    have g0 : w10.cell? ⟨G, 0, none⟩ = some (.slice A8 LW.length c8) := cell_row HG10.out 0 _ rfl
    have g1 : w10.cell? ⟨G, 1, none⟩ = some (.int .i64 next) := cell_row HG10.out 1 _ rfl
    go_wp2_with fail
    refine (Rkids_g LW A8 c8 next q w10 HW10.out.1 HSW.out hq).mono ?_
    rintro e11 w11 ⟨A11, c11, rfl, _, hb11⟩
    have hkn' : ((ints (kidsL LW q)).length : Int) = (kn : Int) := by rw [ints_length, hkn.out]
    have kn0 : (0 : Int) ≤ (kn : Int) := by omega
    have HG11 : Hid (w11.heap[G]? = some (.cells (treeV A8 LW.length c8 next) 29 (0, 0))) := (hb11.block G HGZ10.out).trans HG10.out
    have HGZ11 : Hid (G < w11.heap.size) := Nat.lt_of_lt_of_le HGZ10.out hb11.size
    have HW11 := Lib.hid (HW10.out.below hb11)
    have HN11 := Lib.hid (HN10.out.below hb11)
    clear g0 g1
    have HB311 : Hid (Below w3.heap.size w3 w11) := HB310.out.trans (hb11.mono HB310.out.size)
    have HX11 : Hid (w11.heap[w.heap.size]? = some (.cells (treeV (some ad) L.length c next) 29 (0, 0))) := (HB311.out.block w.heap.size (by have := HZ3.out; omega)).trans HX3.out
    have HY11 : Hid (w11.heap[w.heap.size + 1]? = some (.cells zeroT 29 (0, 0))) := (HB311.out.block (w.heap.size + 1) (by have := HZ3.out; omega)).trans HY3.out
    have HT11 := Lib.hid (HT3.out.below HB311.out)
    have HB11 : Hid (Below w.heap.size w w11) := HB3.out.trans (HB311.out.mono HB3.out.size)
    clear hb11
    by_cases hp1 : (kn : Int) < (pn : Int)
    ·have HE : Hid (a = (L, next, 0, 69)) := HMB.out.trans (if_pos (.inr hp1))
     go_upto_region 15 with (fail)
     have e0 := cell_row HX11.out 0 _ rfl
     have e1 := cell_row HX11.out 1 _ rfl
     go_wp2_with (refine wpList_store_row rfl 29 (.tmp 8) (.tmp 91) rfl (w.heap.size + 1) (treeV (some ad) L.length c next) rfl rfl 29 zeroT HY11.out (by kernel_rfl) rfl (treeV_one _ _ _ _) ?_)
     try simp only [Exit.inBlock, Exit.then]
     refine bodyPost_ret (results_cellb Tryz.results66 _ _ (w.heap.size + 1) 29 (treeV (some ad) L.length c next) (0, 0) _ rfl (setRow_heap _ _ _ _ _ _ HY11.out) Tryz.underlying29 rfl (by kernel_rfl)) rfl ?_
     obtain ⟨q1, q2⟩ := HT11.out.laid HB11.out (g := w.heap.size + 1) (by omega) HY11.out (treeV (some ad) L.length c next)
     rw [HE.out]
     exact ⟨(some ad), c, rfl, q1, q2⟩
    replace HMB := Lib.hid (HMB.out.trans (if_neg (by omega)))
    go_wp2_with fail
    go_loopw [14] (fun i wr => ∃ j : Nat, j ≤ new.length ∧ i = .int .i64 (j : Int) ∧ Hid (∀ i z, i < j → new[i]? = some z → ¬ 40 ≤ z.x.level) ∧ Hid (Below w11.heap.size w11 wr)) (fun i _ => new.length - (intOf i).toNat)
    case atStart => exact ⟨0, Nat.zero_le _, rfl, fun j z hj => by omega, Below.refl _ _⟩
    case round =>
     obtain ⟨j, hj, rfl, hno, hbel⟩ := hrel
     have hbr := hbel.out
     have HB3r : Hid (Below w3.heap.size w3 wr) := HB311.out.trans (hbr.mono HB311.out.size)
     have HXr : Hid (wr.heap[w.heap.size]? = some (.cells (treeV (some ad) L.length c next) 29 (0, 0))) := (HB3r.out.block w.heap.size (by have := HZ3.out; omega)).trans HX3.out
     have HYr : Hid (wr.heap[w.heap.size + 1]? = some (.cells zeroT 29 (0, 0))) := (HB3r.out.block (w.heap.size + 1) (by have := HZ3.out; omega)).trans HY3.out
     have HTr := Lib.hid (HT3.out.below HB3r.out)
     have HBr : Hid (Below w.heap.size w wr) := HB3.out.trans (HB3r.out.mono HB3.out.size)
     clear hbr
     have hnl0 : (new.length : Int) ≤ 100000 := by have := HNL.out; omega
     by_cases hlt : j < new.length
     ·have hlt' : (j : Int) < (new.length : Int) := by omega
      have j0 : (0 : Int) ≤ (j : Int) := by omega
      obtain ⟨z, hz⟩ : ∃ z, Hid (new[j]? = some z) := ⟨new[j], List.getElem?_eq_getElem _⟩
      obtain ⟨an, hAn, _⟩ := (HN11.out.below hbel.out).1 (by omega)
      subst hAn
      obtain ⟨_, Az, cz, _, _, _, z1, _, _, _, _⟩ := (HN11.out.below hbel.out).1.row hz.out
      by_cases h40 : 40 ≤ z.x.level
      ·have HE : Hid (a = (L, next, 0, 65)) := HMB.out.trans (if_pos (List.any_eq_true.2 ⟨z, List.mem_of_getElem? hz.out, decide_eq_true h40⟩))
       go_upto_region 20 with (fail)
       clear z1
       go_upto_region 20 with (fail)
       have e0 := cell_row HXr.out 0 _ rfl
       have e1 := cell_row HXr.out 1 _ rfl
       go_wp2_with (refine wpList_store_row rfl 29 (.tmp 8) (.tmp 105) rfl (w.heap.size + 1) (treeV (some ad) L.length c next) rfl rfl 29 zeroT HYr.out (by kernel_rfl) rfl (treeV_one _ _ _ _) ?_)
       try simp only [Exit.inBlock, Exit.then]
       refine bodyPost_ret (results_cellb Tryz.results66 _ _ (w.heap.size + 1) 29 (treeV (some ad) L.length c next) (0, 0) _ rfl (setRow_heap _ _ _ _ _ _ HYr.out) Tryz.underlying29 rfl (by kernel_rfl)) rfl ?_
       obtain ⟨q1, q2⟩ := HTr.out.laid HBr.out (g := w.heap.size + 1) (by omega) HYr.out (treeV (some ad) L.length c next)
       rw [HE.out]
       exact ⟨(some ad), c, rfl, q1, q2⟩
      ·have hno' : Hid (∀ i z, i < j + 1 → new[i]? = some z → ¬ 40 ≤ z.x.level) := fun i z' hi hz' => by
        by_cases e : i = j
        ·subst e; rw [hz.out] at hz'; injection hz' with hz'; rw [← hz']; exact h40
        ·exact hno.out i z' (by omega) hz'
       go_wp2_with fail
       go_roundw
       case rel => exact ⟨j + 1, by omega, by go_num, hno'.out, hbel.out⟩
       case measure => simp [intOf]; omega
     ·have hlt' : ¬ (j : Int) < (new.length : Int) := by omega
      obtain ⟨sp, hsp⟩ : ∃ sp, Hid (spotL LW q pn = sp) := ⟨_, rfl⟩
      have HE : Hid (a = (laidL LW sp new, next, 0, 0)) := HMB.out.trans ((if_neg (fun h => by
       obtain ⟨z, hz, h⟩ := List.any_eq_true.1 h
       obtain ⟨i, hi, rfl⟩ := List.mem_iff_getElem.1 hz
       exact hno.out i _ (by omega) (List.getElem?_eq_getElem hi) (of_decide_eq_true h))).trans (by rw [← hsp.out]; rfl))
      have HBD : Hid (∃ bd, A8 = some bd) := by
       obtain ⟨bd, hA, _⟩ := HW11.out.1 (by have := hq; omega)
       exact ⟨bd, hA⟩
      obtain ⟨bd, rfl⟩ := HBD.out
      have HPN : Hid (pn ≤ 1000000 ∧ sp ≤ LW.length) := by
       have h1 := posL_len (lvlL LW q + 1) (belowL LW q) (q + 1)
       have h2 := end_le hq
       have h3 : endL LW q = q + 1 + (belowL LW q).length := rfl
       have h5 : (kidsL LW q).length = (posL (lvlL LW q + 1) (q + 1) (belowL LW q)).length := rfl
       have h6 := hkn.out
       have h7 := HSW.out.1
       have h8 := hp1
       refine ⟨by omega, ?_⟩
       rw [← hsp.out]
       exact spot_le hq
      have HLWL : Hid (LW.length ≤ L.length) := by
       show _ ≤ _
       rw [← hLW.out]
       unfold withoutL
       rw [List.length_append, List.length_take, List.length_drop]
       have := end_le hk
       omega
      go_upto_region 21 with (fail)
      have hGr : Hid (∀ W : World, Below w11.heap.size w11 W → W.cell? ⟨G, 0, none⟩ = some (.slice (some bd) LW.length c8) ∧ W.cell? ⟨G, 1, none⟩ = some (.int .i64 next)) := fun W hb => by
       have hx := (hb.block G HGZ11.out).trans HG11.out
       exact ⟨cell_row hx 0 _ rfl, cell_row hx 1 _ rfl⟩
      have hbd : Below wr.heap.size wr wr.drew := ⟨rfl, rfl, rfl, Nat.le_refl _, fun _ _ => rfl⟩
      have HBD12 : Hid (Below w11.heap.size w11 wr.drew) := hbel.out.trans (hbd.mono hbel.out.size)
      have hS := hGr.out wr.drew HBD12.out
      refine wp_region_held_drew (S := fun W => W.cell? ⟨G, 0, none⟩ = some (.slice (some bd) LW.length c8) ∧ W.cell? ⟨G, 1, none⟩ = some (.int .i64 next)) (by kernel_rfl) hS (fun hHeld => ?_)
      clear hS
      refine tkv 0 (h := tkv 1 (h := tkv 2 (h := tkv 3 (h := ?_))))
      refine tkv 5 (h := ?_)
      obtain ⟨w12, hw12⟩ : ∃ w12, Hid (wr.drew = w12) := ⟨_, rfl⟩
      rw [hw12.out] at hbd HBD12 ⊢
      have hb12 := hbd
      clear hbd
      have HB312 : Hid (Below w3.heap.size w3 w12) := HB3r.out.trans (hb12.mono HB3r.out.size)
      have HX12 : Hid (w12.heap[w.heap.size]? = some (.cells (treeV (some ad) L.length c next) 29 (0, 0))) := (HB312.out.block w.heap.size (by have := HZ3.out; omega)).trans HX3.out
      have HY12 : Hid (w12.heap[w.heap.size + 1]? = some (.cells zeroT 29 (0, 0))) := (HB312.out.block (w.heap.size + 1) (by have := HZ3.out; omega)).trans HY3.out
      have HT12 := Lib.hid (HT3.out.below HB312.out)
      have HB12 : Hid (Below w.heap.size w w12) := HB3.out.trans (HB312.out.mono HB3.out.size)
      clear hb12
      refine rdy 4 (fun K hK => ?_)
      go_simp
      refine (Rspot_g LW (some bd) c8 next q pn w12 (HW11.out.below HBD12.out).1 HSW.out hq HPN.out.1 sp hsp).mono ?_
      rintro e13 w13 ⟨rfl, hb13⟩
      have HBD13 : Hid (Below w11.heap.size w11 w13) := HBD12.out.trans (hb13.mono HBD12.out.size)
      have HB313 : Hid (Below w3.heap.size w3 w13) := HB312.out.trans (hb13.mono HB312.out.size)
      have HX13 : Hid (w13.heap[w.heap.size]? = some (.cells (treeV (some ad) L.length c next) 29 (0, 0))) := (HB313.out.block w.heap.size (by have := HZ3.out; omega)).trans HX3.out
      have HY13 : Hid (w13.heap[w.heap.size + 1]? = some (.cells zeroT 29 (0, 0))) := (HB313.out.block (w.heap.size + 1) (by have := HZ3.out; omega)).trans HY3.out
      have HT13 := Lib.hid (HT3.out.below HB313.out)
      have HB13 : Hid (Below w.heap.size w w13) := HB3.out.trans (HB313.out.mono HB3.out.size)
      clear hb13
      go_wp2_with fail
      refine hK.out _ _ (hGr.out w13 HBD13.out) (fun hHeld => ?_)
      clear hK K
      try go_frame
      refine rdy 6 (fun K hK => ?_)
      go_simp
      refine (Rlaid_g LW bd c8 next sp new A7 c7 w13 (HW11.out.below HBD13.out).1 HSW.out HW11.out.2 (HN11.out.below HBD13.out).1 (by have := HNL.out; omega) HPN.out.2 (by have := HLWL.out; omega)).mono ?_
      rintro e14 w14 ⟨A9, c9, S9, rfl, hS9, hown9, hat9, hb14⟩
      have hT9 := TreeR.of hown9 hat9 hb14 hS9 (fun b hb => HXN.out b (Nat.le_trans HB13.out.size hb))
      have hsl9 := congrArg List.length hS9
      rw [List.length_map] at hsl9
      obtain ⟨L', hL'⟩ : ∃ L', Hid (laidL LW sp new = L') := ⟨_, rfl⟩
      rw [hL'.out] at hT9 hsl9
      rw [hsl9]
      have HT9 := Lib.hid hT9
      have HBD14 : Hid (Below w11.heap.size w11 w14) := HBD13.out.trans (hb14.mono HBD13.out.size)
      clear hown9 hat9 hS9 hsl9 hT9
      have HB314 : Hid (Below w3.heap.size w3 w14) := HB313.out.trans (hb14.mono HB313.out.size)
      have HX14 : Hid (w14.heap[w.heap.size]? = some (.cells (treeV (some ad) L.length c next) 29 (0, 0))) := (HB314.out.block w.heap.size (by have := HZ3.out; omega)).trans HX3.out
      have HY14 : Hid (w14.heap[w.heap.size + 1]? = some (.cells zeroT 29 (0, 0))) := (HB314.out.block (w.heap.size + 1) (by have := HZ3.out; omega)).trans HY3.out
      have HT14 := Lib.hid (HT3.out.below HB314.out)
      have HB14 : Hid (Below w.heap.size w w14) := HB3.out.trans (HB314.out.mono HB3.out.size)
      clear hb14
      go_wp2_with fail
      refine hK.out _ _ (hGr.out w14 HBD14.out) (fun hHeld => ?_)
      clear hK K
      try go_frame
      refine rdy 7 (fun K hK => ?_)
      refine step_store_row rfl 29 (.tmp 8) (.tmp 112) rfl (w.heap.size + 1) (treeV A9 L'.length c9 next) rfl rfl 29 zeroT HY14.out (by kernel_rfl) rfl (treeV_one _ _ _ _) ?_
      obtain ⟨q1, q2⟩ := HT9.out.laid HB14.out (g := w.heap.size + 1) (by omega) HY14.out (treeV A9 L'.length c9 next)
      have HQ1 := Lib.hid q1
      have HQ2 := Lib.hid q2
      obtain ⟨w15, hw15⟩ : ∃ w15, Hid (w14.setRow (w.heap.size + 1) (treeV A9 L'.length c9 next) = w15) := ⟨_, rfl⟩
      have hg15 : w15.heap[G]? = some (.cells (treeV (some bd) LW.length c8 next) 29 (0, 0)) := by
       rw [← hw15.out, setRow_other _ _ _ _ (by have := HGL.out; have := HZ3.out; omega)]
       exact (HBD14.out.block G HGZ11.out).trans HG11.out
      have hS15 : Hid (w15.cell? ⟨G, 0, none⟩ = some (.slice (some bd) LW.length c8) ∧ w15.cell? ⟨G, 1, none⟩ = some (.int .i64 next)) := ⟨cell_row hg15 0 _ rfl, cell_row hg15 1 _ rfl⟩
      have HY15 : Hid (w15.heap[w.heap.size + 1]? = some (.cells (treeV A9 L'.length c9 next) 29 (0, 0))) := by show _ = _; rw [← hw15.out]; exact setRow_heap _ _ _ _ _ _ HY14.out
      rw [hw15.out] at HQ1 HQ2 ⊢
      clear q1 q2 hg15
      refine hK.out _ _ (hS15.out) (fun hHeld => ?_)
      clear hK K
      try go_frame
      refine tkv 8 (h := ?_)
      refine wpAnyH_done (by kernel_rfl) ?_ _
      go_wp2_with fail
      refine bodyPost_ret (results_cellb Tryz.results66 _ _ (w.heap.size + 1) 29 (treeV A9 L'.length c9 next) (0, 0) _ rfl HY15.out Tryz.underlying29 rfl (by kernel_rfl)) rfl ?_
      rw [HE.out, hL'.out]
      exact ⟨A9, c9, rfl, HQ1.out, HQ2.out⟩
end
section
open Go.RowKit
def restW (a : AttrD) (done : Bool) (l : List AttrD) : List AttrD := if done then lessA l a.name else withA l a
def RWithPost (w : World) (m : List AttrD) (e : Ending) (w' : World) : Prop := Below w.heap.size w w' ∧ ∃ A c, e = .returned (.slice A m.length c) ∧ AttrsOwn w' w.heap.size A c m
theorem lessA_cons (b : AttrD) (r : List AttrD) (name : List UInt8) : lessA (b :: r) name = if (b.name == name) = true then lessA r name else b :: lessA r name := by
 unfold lessA
 rw [List.filter_cons]
 by_cases h : b.name = name
 ·rw [if_neg (by simpa using h), if_pos (by simpa using h)]
 ·rw [if_pos (by simpa using h), if_neg (by simpa using h)]
theorem Rwith_any (l : List AttrD) (A : Option Addr) (c : Nat) (a : AttrD) (w : World) (hA : AttrsAt w w.heap.size A l) (hl : l.length ≤ 1000000) (M : List AttrD) (hM : Hid (withA l a = M)) :
  Calls Tryz.prog 91 #[.slice A l.length c, .agg #[.string ⟨a.name.toArray⟩, .string ⟨a.value.toArray⟩]] w (RWithPost w M) := by
 have HA := Lib.hid hA
 clear hA
 have hM0 : Hid ([] ++ restW a false (l.drop 0) = M) := hM
 go_enter Tryz.func91, Tryz.ntmps91
 go_wp2_with fail
 obtain ⟨W1, hW1⟩ : ∃ W1, Hid (W1 = w.alloc (.cells #[.string ⟨a.name.toArray⟩, .string ⟨a.value.toArray⟩] 66)) := ⟨_, rfl⟩
 rw [← hW1.out]
 obtain ⟨N1, hN1⟩ : ∃ N1, Hid (N1 = W1.heap.size) := ⟨_, rfl⟩
 have hz1 : w.heap.size < N1 := by rw [hN1.out, hW1.out]; simp
 have hb1 : Below w.heap.size w W1 := by rw [hW1.out]; exact (Below.refl _ w).alloc (Nat.le_refl _) _
 have HBX : Hid (∀ w', Below N1 W1 w' → w'.cell? ⟨w.heap.size, 0, none⟩ = some (.string ⟨a.name.toArray⟩) ∧ w'.cell? ⟨w.heap.size, 1, none⟩ = some (.string ⟨a.value.toArray⟩)) := fun w' hb => by
  have h0 : W1.cell? ⟨w.heap.size, 0, none⟩ = some (.string ⟨a.name.toArray⟩) := by rw [hW1.out, World.cell?_alloc_at _ _ _ _ rfl]; rfl
  have h1 : W1.cell? ⟨w.heap.size, 1, none⟩ = some (.string ⟨a.value.toArray⟩) := by rw [hW1.out, World.cell?_alloc_at _ _ _ _ rfl]; rfl
  exact ⟨(hb.cell (p := ⟨w.heap.size, 0, none⟩) hz1).trans h0, (hb.cell (p := ⟨w.heap.size, 1, none⟩) hz1).trans h1⟩
 have HB1 := Lib.hid hb1
 clear hb1
 go_loopw [5, 6, 7] (fun ov dv i wr => ∃ (k : Nat) (out : List AttrD) (done : Bool) (O : Option Addr) (oc m : Nat), k ≤ l.length ∧ ov = .slice O m oc ∧ dv = .bool done ∧ i = .int .i64 (k : Int) ∧ Hid (out.length = m) ∧ m ≤ 2 * k ∧ Hid (AttrsOwn wr N1 O oc out) ∧ Hid (out ++ restW a done (l.drop k) = M) ∧ Hid (Below N1 W1 wr)) (fun _ _ i _ => l.length - (intOf i).toNat)
 case atStart => exact ⟨0, [], false, none, 0, 0, Nat.zero_le _, rfl, rfl, rfl, rfl, by omega, World.ownsRow_nil _ _ _ _, hM0.out, (Below.refl _ _ : Below N1 W1 W1)⟩
 case round =>
  obtain ⟨k, out, done, O, oc, m, hk, rfl, rfl, rfl, hm, hmk, hown, hin, hbel⟩ := hrel
  have hzr : N1 ≤ wr.heap.size := by rw [hN1.out]; exact hbel.out.size
  by_cases hlt : k < l.length
  ·obtain ⟨b, hb⟩ : ∃ b, Hid (l[k]? = some b) := ⟨l[k], List.getElem?_eq_getElem _⟩
   have hAr : AttrsAt wr w.heap.size A l := (HA.out.below HB1.out).below (hbel.out.mono (Nat.le_of_lt hz1))
   obtain ⟨ad, hAd, had, hcc⟩ := hAr (by omega)
   subst hAd
   have hwz : w.heap.size < wr.heap.size := Nat.lt_of_lt_of_le hz1 hzr
   have k0 : (0 : Int) ≤ (k : Int) := by omega
   have k1 : (k : Int) < l.length := by omega
   have HCELL : Hid (∀ w', Below N1 wr w' → w'.cell? (ad.add (k * 2)) = some (.string ⟨b.name.toArray⟩) ∧ w'.cell? ⟨(ad.add (k * 2)).block, (ad.add (k * 2)).off + 1, none⟩ = some (.string ⟨b.value.toArray⟩) ∧ w'.cell? ⟨w.heap.size, 0, none⟩ = some (.string ⟨a.name.toArray⟩) ∧ w'.cell? ⟨w.heap.size, 1, none⟩ = some (.string ⟨a.value.toArray⟩)) := fun w' hbw => by
    obtain ⟨h0, h1⟩ := hcc k b hb.out
    have hx := HBX.out w' (hbel.out.trans hbw)
    have e : ∀ p : Addr, p.block = ad.block → w'.cell? p = wr.cell? p := fun p hp => hbw.cell (by rw [hp]; exact Nat.lt_trans had hz1)
    exact ⟨(e _ (block_of_add _ _)).trans h0, (e _ (by show (ad.add _).block = _; exact block_of_add _ _)).trans h1, hx.1, hx.2⟩
   clear hcc hAr
   have hdrop := Lib.hid (drop_cons hb.out)
   obtain ⟨bn, hbn⟩ : ∃ bn, Hid ((b.name == a.name) = bn) := ⟨_, rfl⟩
   have hbx : (b.name == a.name) = bn := hbn.out
   cases done with
   | true =>
    have HIN : Hid (if bn = true then out ++ restW a true (l.drop (k + 1)) = M else (out ++ [b]) ++ restW a true (l.drop (k + 1)) = M) := by
     show (if _ then _ else _)
     have hh := hin.out
     rw [hdrop.out] at hh
     unfold restW at hh ⊢
     rw [if_pos rfl, lessA_cons, hbn.out] at hh
     rw [if_pos rfl]
     cases bn with
     | true => rw [if_pos rfl] at hh ⊢; exact hh
     | false => rw [if_neg (by simp)] at hh ⊢; rw [← hh]; simp
    clear hin hbx
    go_wp2_with fail
    refine wp_region_held_drew (S := fun _ => True) (by kernel_rfl) trivial (fun hHeld => ?_)
    refine tkv 0 (h := tkv 1 (h := tkv 2 (h := ?_)))
    refine tkn 3 (h := tkn 4 (h := tkn 5 (h := tkn 6 (h := tkn 7 (h := tkn 8 (h := ?_))))))
    refine tkn 9 (h := tkn 10 (h := ?_))
    refine tkv 11 (h := ?_)
    refine wpAnyH_done (by kernel_rfl) ?_ _
    clear hHeld
    obtain ⟨W3, hW3⟩ : ∃ W3, Hid (W3 = wr.drew) := ⟨_, rfl⟩
    rw [← hW3.out]
    have hb3 : Below N1 wr W3 := by rw [hW3.out]; exact (Below.refl _ _).drew
    have hown3' : W3.ownsRow N1 66 2 (.slice O m oc) m (out.flatMap cellsA) := by rw [hW3.out, ← hm.out]; exact hown.out
    go_wp2_with fail
    have HS2 : Hid (W3.drew.cell? (ad.add (k * 2)) = some (.string ⟨b.name.toArray⟩) ∧ W3.drew.cell? ⟨w.heap.size, 0, none⟩ = some (.string ⟨a.name.toArray⟩)) := by
     have := HCELL.out _ (Below.trans hb3 (Below.refl N1 W3).drew)
     exact ⟨this.1, this.2.2.1⟩
    refine wp_region_held_drew (S := fun w' => w'.cell? (ad.add (k * 2)) = some (.string ⟨b.name.toArray⟩) ∧ w'.cell? ⟨w.heap.size, 0, none⟩ = some (.string ⟨a.name.toArray⟩)) (by kernel_rfl) HS2.out (fun hHeld => ?_)
    refine tkv 0 (h := tkv 1 (h := tkv 2 (h := tkv 3 (h := tkv 4 (h := tkv 5 (h := ?_))))))
    refine tkv 6 (h := tkv 7 (h := ?_))
    refine wpAnyH_done (by kernel_rfl) ?_ _
    clear hHeld
    rw [hbn.out]
    obtain ⟨W5, hW5⟩ : ∃ W5, Hid (W5 = W3.drew) := ⟨_, rfl⟩
    rw [← hW5.out]
    have hb5 : Below N1 wr W5 := by rw [hW5.out]; exact Below.trans hb3 (Below.refl _ _).drew
    have hown5 : W5.ownsRow N1 66 2 (.slice O m oc) m (List.flatMap cellsA out) := by rw [hW5.out]; exact hown3'
    have hz5 : N1 ≤ W5.heap.size := Nat.le_trans hzr hb5.size
    have hcell5 := HCELL.out _ hb5
    obtain ⟨c0, c1, _, _⟩ := hcell5
    cases bn with
    | true =>
     have HIN2 : Hid (out ++ restW a true (l.drop (k + 1)) = M) := by
      show _ = _
      have hh := HIN.out
      rw [if_pos rfl] at hh
      exact hh
     have HOWN5 : Hid (AttrsOwn W5 N1 O oc (out)) := by
      show AttrsOwn _ _ _ _ _
      unfold AttrsOwn
      rw [hm.out]
      exact hown5
     clear hown5 HIN
     go_wp2_with fail
     go_roundw
     case rel => exact ⟨k + 1, out, true, O, oc, m, by omega, rfl, rfl, by go_num, hm.out, by omega, HOWN5, HIN2.out, hbel.out.trans hb5⟩
     case measure => simp [intOf]; omega
    | false =>
     have HIN2 : Hid ((out ++ [b]) ++ restW a true (l.drop (k + 1)) = M) := by
      show _ = _
      have hh := HIN.out
      rw [if_neg (by simp)] at hh
      exact hh
     clear HIN
     go_wp2_with (at_builtin; go_loud (refine appendS rfl (.tmp 38) (.tmp 43) 48 rfl N1 66 (.agg #[.string ByteArray.empty, .string ByteArray.empty]) 2 32 Tryz.underlying48 infoAttr rfl (by decide) _ m _ (cellsA b) rfl hown5 hz5 _ rfl rfl (cellsA_length _) (by intro v hv; exact cellsA_one [b] v (by simpa using hv)) (by omega) (by decide) ?_))
     intro a6 c6 w6 hown6 hb6 hz6 hg6
     have hown6' : AttrsOwn w6 N1 a6 c6 (out ++ [b]) := by
      unfold AttrsOwn
      rw [List.length_append, List.flatMap_append, hm.out]
      simpa using hown6
     clear hown6 hg6 hown5
     go_wp2_with fail
     go_roundw
     case rel => exact ⟨k + 1, out ++ [b], true, a6, c6, m + 1, by omega, by go_num, rfl, by go_num, by show _ = _; rw [List.length_append, hm.out]; rfl, by omega, hown6', HIN2.out, hbel.out.trans (hb5.trans hb6)⟩
     case measure => simp [intOf]; omega
   | false =>
    obtain ⟨x1, hx1⟩ : ∃ x1, Op.bytesLess b.name a.name = x1 := ⟨_, rfl⟩
    have hx2 : Hid (leB a.name b.name = !x1) := by show _ = _; rw [leB_not, hx1]
    have HS : Hid (wr.drew.cell? (ad.add (k * 2)) = some (.string ⟨b.name.toArray⟩) ∧ wr.drew.cell? ⟨w.heap.size, 0, none⟩ = some (.string ⟨a.name.toArray⟩)) := by
     have := HCELL.out _ (Below.refl N1 wr).drew
     exact ⟨this.1, this.2.2.1⟩
    clear hbx
    go_wp2_with fail
    refine wp_region_held_drew (S := fun w' => w'.cell? (ad.add (k * 2)) = some (.string ⟨b.name.toArray⟩) ∧ w'.cell? ⟨w.heap.size, 0, none⟩ = some (.string ⟨a.name.toArray⟩)) (by kernel_rfl) HS.out (fun hHeld => ?_)
    refine tkv 0 (h := tkv 1 (h := tkv 2 (h := tkv 3 (h := tkv 4 (h := tkv 5 (h := ?_))))))
    refine tkv 6 (h := tkv 7 (h := tkv 8 (h := tkv 9 (h := tkv 10 (h := tkv 11 (h := ?_))))))
    refine wpAnyH_done (by kernel_rfl) ?_ _
    clear hHeld
    obtain ⟨W3, hW3⟩ : ∃ W3, Hid (W3 = wr.drew) := ⟨_, rfl⟩
    rw [← hW3.out]
    have hb3 : Below N1 wr W3 := by rw [hW3.out]; exact (Below.refl _ _).drew
    have hown3' : W3.ownsRow N1 66 2 (.slice O m oc) m (out.flatMap cellsA) := by rw [hW3.out, ← hm.out]; exact hown.out
    have hz3 : N1 ≤ W3.heap.size := Nat.le_trans hzr hb3.size
    cases x1 with
    | true =>
     have hne : bn = false := by
      rw [← hbn.out]
      exact beq_eq_false_iff_ne.2 (bl_ne hx1)
     have HIN : Hid (if bn = true then out ++ restW a false (l.drop (k + 1)) = M else (out ++ [b]) ++ restW a false (l.drop (k + 1)) = M) := by
      show (if _ then _ else _)
      rw [hne, if_neg (by simp), ← hin.out, hdrop.out]
      unfold restW
      rw [if_neg (by simp), if_neg (by simp), withA, hx2.out, if_neg (by simp)]
      simp
     clear hin hx2 hne
     go_wp2_with fail
     have HS2 : Hid (W3.drew.cell? (ad.add (k * 2)) = some (.string ⟨b.name.toArray⟩) ∧ W3.drew.cell? ⟨w.heap.size, 0, none⟩ = some (.string ⟨a.name.toArray⟩)) := by
      have := HCELL.out _ (Below.trans hb3 (Below.refl N1 W3).drew)
      exact ⟨this.1, this.2.2.1⟩
     refine wp_region_held_drew (S := fun w' => w'.cell? (ad.add (k * 2)) = some (.string ⟨b.name.toArray⟩) ∧ w'.cell? ⟨w.heap.size, 0, none⟩ = some (.string ⟨a.name.toArray⟩)) (by kernel_rfl) HS2.out (fun hHeld => ?_)
     refine tkv 0 (h := tkv 1 (h := tkv 2 (h := tkv 3 (h := tkv 4 (h := tkv 5 (h := ?_))))))
     refine tkv 6 (h := tkv 7 (h := ?_))
     refine wpAnyH_done (by kernel_rfl) ?_ _
     clear hHeld
     rw [hbn.out]
     obtain ⟨W5, hW5⟩ : ∃ W5, Hid (W5 = W3.drew) := ⟨_, rfl⟩
     rw [← hW5.out]
     have hb5 : Below N1 wr W5 := by rw [hW5.out]; exact Below.trans hb3 (Below.refl _ _).drew
     have hown5 : W5.ownsRow N1 66 2 (.slice O m oc) m (List.flatMap cellsA out) := by rw [hW5.out]; exact hown3'
     have hz5 : N1 ≤ W5.heap.size := Nat.le_trans hzr hb5.size
     have hcell5 := HCELL.out _ hb5
     obtain ⟨c0, c1, _, _⟩ := hcell5
     cases bn with
     | true =>
      have HIN2 : Hid (out ++ restW a false (l.drop (k + 1)) = M) := by
       show _ = _
       have hh := HIN.out
       rw [if_pos rfl] at hh
       exact hh
      have HOWN5 : Hid (AttrsOwn W5 N1 O oc (out)) := by
       show AttrsOwn _ _ _ _ _
       unfold AttrsOwn
       rw [hm.out]
       exact hown5
      clear hown5 HIN
      go_wp2_with fail
      go_roundw
      case rel => exact ⟨k + 1, out, false, O, oc, m, by omega, rfl, rfl, by go_num, hm.out, by omega, HOWN5, HIN2.out, hbel.out.trans hb5⟩
      case measure => simp [intOf]; omega
     | false =>
      have HIN2 : Hid ((out ++ [b]) ++ restW a false (l.drop (k + 1)) = M) := by
       show _ = _
       have hh := HIN.out
       rw [if_neg (by simp)] at hh
       exact hh
      clear HIN
      go_wp2_with (at_builtin; go_loud (refine appendS rfl (.tmp 38) (.tmp 43) 48 rfl N1 66 (.agg #[.string ByteArray.empty, .string ByteArray.empty]) 2 32 Tryz.underlying48 infoAttr rfl (by decide) _ m _ (cellsA b) rfl hown5 hz5 _ rfl rfl (cellsA_length _) (by intro v hv; exact cellsA_one [b] v (by simpa using hv)) (by omega) (by decide) ?_))
      intro a6 c6 w6 hown6 hb6 hz6 hg6
      have hown6' : AttrsOwn w6 N1 a6 c6 (out ++ [b]) := by
       unfold AttrsOwn
       rw [List.length_append, List.flatMap_append, hm.out]
       simpa using hown6
      clear hown6 hg6 hown5
      go_wp2_with fail
      go_roundw
      case rel => exact ⟨k + 1, out ++ [b], false, a6, c6, m + 1, by omega, by go_num, rfl, by go_num, by show _ = _; rw [List.length_append, hm.out]; rfl, by omega, hown6', HIN2.out, hbel.out.trans (hb5.trans hb6)⟩
      case measure => simp [intOf]; omega
    | false =>
     have HIN : Hid (if bn = true then (out ++ [a]) ++ restW a true (l.drop (k + 1)) = M else ((out ++ [a]) ++ [b]) ++ restW a true (l.drop (k + 1)) = M) := by
      show (if _ then _ else _)
      have hh := hin.out
      rw [hdrop.out] at hh
      unfold restW at hh ⊢
      rw [if_neg (by simp), withA, hx2.out, if_pos (by rfl)] at hh
      have e : (b :: l.drop (k + 1)).filter (fun c => decide (c.name ≠ a.name)) = lessA (b :: l.drop (k + 1)) a.name := rfl
      rw [e, lessA_cons, hbn.out] at hh
      rw [if_pos rfl]
      cases bn with
      | true => rw [if_pos rfl] at hh ⊢; rw [← hh]; simp
      | false => rw [if_neg (by simp)] at hh ⊢; rw [← hh]; simp
     clear hin hx2
     have hcellA := HCELL.out _ hb3
     obtain ⟨_, _, d0, d1⟩ := hcellA
     go_wp2_with (at_builtin; go_loud (refine appendS rfl (.tmp 26) (.tmp 28) 48 rfl N1 66 (.agg #[.string ByteArray.empty, .string ByteArray.empty]) 2 32 Tryz.underlying48 infoAttr rfl (by decide) _ m _ (cellsA a) rfl hown3' hz3 _ rfl rfl (cellsA_length _) (by intro v hv; exact cellsA_one [a] v (by simpa using hv)) (by omega) (by decide) ?_))
     intro a4 c4 w4 hown4 hb4 hz4 hg4
     have hown4' : w4.ownsRow N1 66 2 (.slice a4 (m + 1) c4) (m + 1) ((out ++ [a]).flatMap cellsA) := by
      rw [List.flatMap_append]
      simpa using hown4
     have hb34 : Below N1 wr w4 := hb3.trans hb4
     have hlen4 : Hid ((out ++ [a]).length = m + 1) := by show _ = _; rw [List.length_append, hm.out]; rfl
     clear hown4 hg4 d0 d1
     go_wp2_with fail
     have HS2 : Hid (w4.drew.cell? (ad.add (k * 2)) = some (.string ⟨b.name.toArray⟩) ∧ w4.drew.cell? ⟨w.heap.size, 0, none⟩ = some (.string ⟨a.name.toArray⟩)) := by
      have := HCELL.out _ (Below.trans hb34 (Below.refl N1 w4).drew)
      exact ⟨this.1, this.2.2.1⟩
     refine wp_region_held_drew (S := fun w' => w'.cell? (ad.add (k * 2)) = some (.string ⟨b.name.toArray⟩) ∧ w'.cell? ⟨w.heap.size, 0, none⟩ = some (.string ⟨a.name.toArray⟩)) (by kernel_rfl) HS2.out (fun hHeld => ?_)
     refine tkv 0 (h := tkv 1 (h := tkv 2 (h := tkv 3 (h := tkv 4 (h := tkv 5 (h := ?_))))))
     refine tkv 6 (h := tkv 7 (h := ?_))
     refine wpAnyH_done (by kernel_rfl) ?_ _
     clear hHeld
     rw [hbn.out]
     obtain ⟨W5, hW5⟩ : ∃ W5, Hid (W5 = w4.drew) := ⟨_, rfl⟩
     rw [← hW5.out]
     have hb5 : Below N1 wr W5 := by rw [hW5.out]; exact Below.trans hb34 (Below.refl _ _).drew
     have hown5 : W5.ownsRow N1 66 2 (.slice a4 (m + 1) c4) (m + 1) (List.flatMap cellsA (out ++ [a])) := by rw [hW5.out]; exact hown4'
     have hz5 : N1 ≤ W5.heap.size := Nat.le_trans hzr hb5.size
     have hcell5 := HCELL.out _ hb5
     obtain ⟨c0, c1, _, _⟩ := hcell5
     cases bn with
     | true =>
      have HIN2 : Hid ((out ++ [a]) ++ restW a true (l.drop (k + 1)) = M) := by
       show _ = _
       have hh := HIN.out
       rw [if_pos rfl] at hh
       exact hh
      have HOWN5 : Hid (AttrsOwn W5 N1 a4 c4 ((out ++ [a]))) := by
       show AttrsOwn _ _ _ _ _
       unfold AttrsOwn
       rw [hlen4.out]
       exact hown5
      clear hown5 HIN
      go_wp2_with fail
      go_roundw
      case rel => exact ⟨k + 1, (out ++ [a]), true, a4, c4, (m + 1), by omega, rfl, rfl, by go_num, hlen4.out, by omega, HOWN5, HIN2.out, hbel.out.trans hb5⟩
      case measure => simp [intOf]; omega
     | false =>
      have HIN2 : Hid (((out ++ [a]) ++ [b]) ++ restW a true (l.drop (k + 1)) = M) := by
       show _ = _
       have hh := HIN.out
       rw [if_neg (by simp)] at hh
       exact hh
      clear HIN
      go_wp2_with (at_builtin; go_loud (refine appendS rfl (.tmp 38) (.tmp 43) 48 rfl N1 66 (.agg #[.string ByteArray.empty, .string ByteArray.empty]) 2 32 Tryz.underlying48 infoAttr rfl (by decide) _ (m + 1) _ (cellsA b) rfl hown5 hz5 _ rfl rfl (cellsA_length _) (by intro v hv; exact cellsA_one [b] v (by simpa using hv)) (by omega) (by decide) ?_))
      intro a6 c6 w6 hown6 hb6 hz6 hg6
      have hown6' : AttrsOwn w6 N1 a6 c6 ((out ++ [a]) ++ [b]) := by
       unfold AttrsOwn
       rw [List.length_append, List.flatMap_append, hlen4.out]
       simpa using hown6
      clear hown6 hg6 hown5
      go_wp2_with fail
      go_roundw
      case rel => exact ⟨k + 1, (out ++ [a]) ++ [b], true, a6, c6, (m + 1) + 1, by omega, by go_num, rfl, by go_num, by show _ = _; rw [List.length_append, hlen4.out]; rfl, by omega, hown6', HIN2.out, hbel.out.trans (hb5.trans hb6)⟩
      case measure => simp [intOf]; omega
  ·have hd : Hid (l.drop k = []) := List.drop_eq_nil_of_le (by omega)
   have k1 : (l.length : Int) ≤ (k : Int) := by omega
   have hbw : Below w.heap.size w wr := HB1.out.trans (hbel.out.mono (Nat.le_of_lt hz1))
   cases done with
   | true =>
    have HO : Hid (out = M) := by
     show _ = _
     have := hin.out
     rw [hd.out] at this
     unfold restW lessA at this
     simpa using this
    go_wp2_with fail
    go_ret
    exact ⟨hbw, O, oc, by rw [← HO.out, hm.out]; rfl, by rw [← HO.out]; exact World.ownsRow.mono hown.out (Nat.le_of_lt hz1)⟩
   | false =>
    have HO : Hid (out ++ [a] = M) := by
     show _ = _
     have := hin.out
     rw [hd.out] at this
     unfold restW at this
     simpa [withA] using this
    obtain ⟨d0, d1⟩ := HBX.out wr hbel.out
    have hown3' : wr.ownsRow N1 66 2 (.slice O m oc) m (out.flatMap cellsA) := by rw [← hm.out]; exact hown.out
    go_wp2_with (at_builtin; go_loud (refine appendS rfl (.tmp 47) (.tmp 49) 48 rfl N1 66 (.agg #[.string ByteArray.empty, .string ByteArray.empty]) 2 32 Tryz.underlying48 infoAttr rfl (by decide) _ m _ (cellsA a) rfl hown3' hzr _ rfl rfl (cellsA_length _) (by intro v hv; exact cellsA_one [a] v (by simpa using hv)) (by omega) (by decide) ?_))
    intro a4 c4 w4 hown4 hb4 hz4 hg4
    have hown4' : w4.ownsRow N1 66 2 (.slice a4 (m + 1) c4) (m + 1) ((out ++ [a]).flatMap cellsA) := by
     rw [List.flatMap_append]
     simpa using hown4
    have hml : Hid (m + 1 = M.length) := by show _ = _; rw [← HO.out, List.length_append, hm.out]; rfl
    have HOW4 := Lib.hid hown4'
    clear hown4 hg4 hown4'
    go_wp2_with fail
    go_ret
    refine ⟨hbw.trans (hb4.mono (Nat.le_of_lt hz1)), a4, c4, by rw [← hml.out]; rfl, ?_⟩
    have := HOW4.out
    rw [HO.out, hml.out] at this
    exact World.ownsRow.mono this (Nat.le_of_lt hz1)
theorem Rless_any (l : List AttrD) (A : Option Addr) (c : Nat) (name : List UInt8) (w : World) (hA : AttrsAt w w.heap.size A l) (hl : l.length ≤ 1000000) (M : List AttrD) (hM : Hid (lessA l name = M)) :
  Calls Tryz.prog 93 #[.slice A l.length c, .string ⟨name.toArray⟩] w (RWithPost w M) := by
 have HA := Lib.hid hA
 clear hA
 have hM0 : Hid ([] ++ lessA (l.drop 0) name = M) := hM
 go_enter Tryz.func93, Tryz.ntmps93
 go_wp2_with fail
 obtain ⟨N1, hN1⟩ : ∃ N1, Hid (N1 = w.heap.size) := ⟨_, rfl⟩
 go_loopw [5, 6] (fun ov i wr => ∃ (k : Nat) (out : List AttrD) (O : Option Addr) (oc m : Nat), k ≤ l.length ∧ ov = .slice O m oc ∧ i = .int .i64 (k : Int) ∧ Hid (out.length = m) ∧ m ≤ k ∧ Hid (AttrsOwn wr N1 O oc out) ∧ Hid (out ++ lessA (l.drop k) name = M) ∧ Hid (Below N1 w wr)) (fun _ i _ => l.length - (intOf i).toNat)
 case atStart => exact ⟨0, [], none, 0, 0, Nat.zero_le _, rfl, rfl, rfl, by omega, World.ownsRow_nil _ _ _ _, hM0.out, (Below.refl _ _ : Below N1 w w)⟩
 case round =>
  obtain ⟨k, out, O, oc, m, hk, rfl, rfl, hm, hmk, hown, hin, hbel⟩ := hrel
  have hzr : N1 ≤ wr.heap.size := by rw [hN1.out]; exact hbel.out.size
  by_cases hlt : k < l.length
  ·obtain ⟨b, hb⟩ : ∃ b, Hid (l[k]? = some b) := ⟨l[k], List.getElem?_eq_getElem _⟩
   have hAr : AttrsAt wr w.heap.size A l := HA.out.below (by have := hbel.out; rwa [hN1.out] at this)
   obtain ⟨ad, hAd, had, hcc⟩ := hAr (by omega)
   subst hAd
   have k0 : (0 : Int) ≤ (k : Int) := by omega
   have k1 : (k : Int) < l.length := by omega
   obtain ⟨c0, c1⟩ := hcc k b hb.out
   unfold strV at c0 c1
   clear hcc hAr
   have hdrop := Lib.hid (drop_cons hb.out)
   obtain ⟨bn, hbn⟩ : ∃ bn, Hid ((b.name == name) = bn) := ⟨_, rfl⟩
   have HIN : Hid (if bn = true then out ++ lessA (l.drop (k + 1)) name = M else (out ++ [b]) ++ lessA (l.drop (k + 1)) name = M) := by
    show (if _ then _ else _)
    have hh := hin.out
    rw [hdrop.out, lessA_cons, hbn.out] at hh
    cases bn with
    | true => rw [if_pos rfl] at hh ⊢; exact hh
    | false => rw [if_neg (by simp)] at hh ⊢; rw [← hh]; simp
   clear hin
   have hbx := hbn.out
   cases bn with
   | true =>
    have HIN2 : Hid (out ++ lessA (l.drop (k + 1)) name = M) := by
     show _ = _
     have hh := HIN.out
     rw [if_pos rfl] at hh
     exact hh
    clear HIN
    go_wp2_with fail
    go_roundw
    case rel => exact ⟨k + 1, out, O, oc, m, by omega, rfl, by go_num, hm, by omega, hown, HIN2.out, hbel⟩
    case measure => simp [intOf]; omega
   | false =>
    have HIN2 : Hid ((out ++ [b]) ++ lessA (l.drop (k + 1)) name = M) := by
     show _ = _
     have hh := HIN.out
     rw [if_neg (by simp)] at hh
     exact hh
    have hown3' : wr.ownsRow N1 66 2 (.slice O m oc) m (out.flatMap cellsA) := by rw [← hm.out]; exact hown.out
    clear HIN
    go_wp2_with (at_builtin; go_loud (refine appendS rfl (.tmp 20) (.tmp 25) 48 rfl N1 66 (.agg #[.string ByteArray.empty, .string ByteArray.empty]) 2 32 Tryz.underlying48 infoAttr rfl (by decide) _ m _ (cellsA b) rfl hown3' hzr _ rfl rfl (cellsA_length _) (by intro v hv; exact cellsA_one [b] v (by simpa using hv)) (by omega) (by decide) ?_))
    intro a6 c6 w6 hown6 hb6 hz6 hg6
    have hown6' : AttrsOwn w6 N1 a6 c6 (out ++ [b]) := by
     unfold AttrsOwn
     rw [List.length_append, List.flatMap_append, hm.out]
     simpa using hown6
    clear hown6 hg6 hown3'
    go_wp2_with fail
    go_roundw
    case rel => exact ⟨k + 1, out ++ [b], a6, c6, m + 1, by omega, rfl, by go_num, by show _ = _; rw [List.length_append, hm.out]; rfl, by omega, hown6', HIN2.out, hbel.out.trans hb6⟩
    case measure => simp [intOf]; omega
  ·have hd : Hid (l.drop k = []) := List.drop_eq_nil_of_le (by omega)
   have k1 : (l.length : Int) ≤ (k : Int) := by omega
   have hbw : Below w.heap.size w wr := by have := hbel.out; rwa [hN1.out] at this
   have HO : Hid (out = M) := by
    show _ = _
    have := hin.out
    rw [hd.out] at this
    unfold lessA at this
    simpa using this
   go_wp2_with fail
   go_ret
   exact ⟨hbw, O, oc, by rw [← HO.out, hm.out]; rfl, by rw [← HO.out, ← hN1.out]; exact hown.out⟩
end
end Go.Proofs.YtmkgajdgnmolkaaGreat

/-
  The document's trees: a node's kid.
-/
import Derived.Test.YtmkgajdgnmolkaaGreatH1
import Derived.Test.YtmkgajdgnmolkaaGreatGRGt
import Derived.Test.YtmkgajdgnmolkaaGreatH9
namespace Go.Proofs.YtmkgajdgnmolkaaGreat
open Go.RowKit Go.Shelf
variable {X : Nat → Prop}
def kidA (L : List RowD) (id n : Int) : Int × Bool := match findL L id with
 | none => (0, false)
 | some k => if n < 0 then (0, false) else match (kidsL L k)[n.toNat]? with
  | none => (0, false)
  | some i => match L[i]? with
   | none => (0, false)
   | some r => (r.id, true)
set_option maxRecDepth 100000 in
set_option maxHeartbeats 2000000 in
theorem RKid_any (L : List RowD) (A : Option Addr) (c : Nat) (next id n : Int) (w : World) (hT : TreeR X w A c L) (hs : SmallRows L) (a : Int × Bool) (ha : Hid (kidA L id n = a)) :
  Calls Tryz.prog 26 #[.agg #[.slice A L.length c, .int .i64 next], .int .i64 id, .int .i64 n] w (Ret w (.tuple #[.int .i64 a.1, .bool a.2])) := by
 obtain ⟨v, hr⟩ : ∃ v, Hid (findI L id = v) := ⟨_, rfl⟩
 obtain ⟨W1, hW1⟩ : ∃ W1, Hid (W1 = w.alloc (.cells #[.slice A L.length c, .int .i64 next] 29)) := ⟨_, rfl⟩
 have hb1 : Below w.heap.size w W1 := by rw [hW1.out]; exact (Below.refl _ w).alloc (Nat.le_refl _) _
 have hx1 : W1.heap[w.heap.size]? = some (.cells (treeV A L.length c next) 29 (0, 0)) := by rw [hW1.out]; exact heap_alloc_new w _
 have HZ1 : Hid (w.heap.size < W1.heap.size) := by show _ < _; rw [hW1.out]; simp
 have x0 : W1.cell? ⟨w.heap.size, 0, none⟩ = some (.slice A L.length c) := cell_row hx1 0 _ rfl
 have x1 : W1.cell? ⟨w.heap.size, 1, none⟩ = some (.int .i64 next) := cell_row hx1 1 _ rfl
 have HX1 := Lib.hid hx1
 have HB1 := Lib.hid hb1
 have HT1 := Lib.hid (hT.below hb1)
 have HT := Lib.hid hT
 have HS := Lib.hid hs
 clear hT hs hb1 hx1
 cases hf : findL L id with
 | none =>
  have hv1 : v = -1 := by rw [← hr.out]; unfold findI; rw [hf]
  have HA : Hid (a = (0, false)) := by show _ = _; rw [← ha.out]; unfold kidA; rw [hf]
  clear hf
  subst hv1
  go_enter Tryz.func26, Tryz.ntmps26
  go_wp2_with fail
  rw [← hW1.out]
  refine (RFind_any L A c next id W1 HT1.out.1 HS.out (-1) hr).mono ?_
  rintro e3 w3 ⟨rfl, hb3⟩
  have HB3 : Hid (Below w.heap.size w w3) := HB1.out.trans (hb3.mono HB1.out.size)
  clear hb3 x0 x1
  go_wp2_with fail
  go_ret2
  rw [HA.out]
  exact ⟨rfl, HB3.out⟩
 | some k =>
  have hv1 : v = (k : Int) := by rw [← hr.out]; unfold findI; rw [hf]
  have hk : k < L.length := find_lt hf
  have hkc : (k : Int) < (L.length : Int) := by omega
  have k0 : (0 : Int) ≤ (k : Int) := by omega
  have n1 : (L.length : Int) ≤ 1000000 := by have := HS.out.1; omega
  subst hv1
  have HAD : Hid (∃ ad, A = some ad) := by
   obtain ⟨ad, hA, _⟩ := HT.out.1 (by omega)
   exact ⟨ad, hA⟩
  obtain ⟨K, hK⟩ : ∃ K, Hid (kidsL L k = K) := ⟨_, rfl⟩
  have HA : Hid (a = if n < 0 then (0, false) else match K[n.toNat]? with
    | none => (0, false)
    | some i => match L[i]? with
     | none => (0, false)
     | some r => (r.id, true)) := by
   show _ = _
   rw [← ha.out, ← hK.out]
   unfold kidA
   rw [hf]
  have HKL : Hid (∀ i ∈ K, i < L.length) := fun i hi => by
   rw [← hK.out] at hi
   have h1 := posL_lt _ _ _ i hi
   have h2 := end_le hk
   have h3 : endL L k = k + 1 + (belowL L k).length := rfl
   omega
  clear hf ha
  go_enter Tryz.func26, Tryz.ntmps26
  go_wp2_with fail
  rw [← hW1.out]
  refine (RFind_any L A c next id W1 HT1.out.1 HS.out (k : Int) hr).mono ?_
  rintro e3 w3 ⟨rfl, hb3⟩
  obtain ⟨ad, rfl⟩ := HAD.out
  have HB3 : Hid (Below w.heap.size w w3) := HB1.out.trans (hb3.mono HB1.out.size)
  have hx3 := (hb3.block w.heap.size HZ1.out).trans HX1.out
  have HX3 := Lib.hid hx3
  have HT3 := Lib.hid (HT1.out.below hb3)
  have HZ3 : Hid (w.heap.size < w3.heap.size) := Nat.lt_of_lt_of_le HZ1.out hb3.size
  clear hb3 x0 x1
  have x0 : w3.cell? ⟨w.heap.size, 0, none⟩ = some (.slice (some ad) L.length c) := cell_row hx3 0 _ rfl
  have x1 : w3.cell? ⟨w.heap.size, 1, none⟩ = some (.int .i64 next) := cell_row hx3 1 _ rfl
  clear hx3
  go_wp2_with fail
  refine (Rkids_g L (some ad) c next k w3 HT3.out.1 HS.out hk).mono ?_
  rintro e4 w4 ⟨A4, c4, rfl, hr4, hb4⟩
  rw [hK.out] at hr4 ⊢
  have HB4 : Hid (Below w.heap.size w w4) := HB3.out.trans (hb4.mono HB3.out.size)
  have HX4 : Hid (w4.heap[w.heap.size]? = some (.cells (treeV (some ad) L.length c next) 29 (0, 0))) := (hb4.block w.heap.size HZ3.out).trans HX3.out
  have HT4 := Lib.hid (HT3.out.below hb4)
  have HR4 := Lib.hid hr4
  clear hb4 x0 x1 hr4
  have kl0 : (0 : Int) ≤ ((ints K).length : Int) := by omega
  by_cases hn : n < 0
  ·have HE : Hid (a = (0, false)) := HA.out.trans (if_pos hn)
   go_wp2_with fail
   go_ret2
   rw [HE.out]
   exact ⟨rfl, HB4.out⟩
  obtain ⟨m, rfl⟩ : ∃ m : Nat, n = (m : Int) := ⟨n.toNat, by omega⟩
  have hm0 : (0 : Int) ≤ (m : Int) := by omega
  replace HA := Lib.hid (HA.out.trans (if_neg hn))
  by_cases hm : m < K.length
  ·obtain ⟨i, hi⟩ : ∃ i, K[m]? = some i := ⟨K[m], List.getElem?_eq_getElem hm⟩
   have hil := HKL.out i (List.mem_of_getElem? hi)
   obtain ⟨r, hri⟩ : ∃ r, L[i]? = some r := ⟨L[i], List.getElem?_eq_getElem hil⟩
   have HE : Hid (a = (r.id, true)) := by
    show _ = _
    rw [HA.out, show ((m : Int).toNat) = m by omega, hi]
    simp only [hri]
   have hmi : (m : Int) < ((ints K).length : Int) := by rw [ints_length]; omega
   have hmi' : ¬ ((ints K).length : Int) ≤ (m : Int) := by omega
   obtain ⟨A5, c5, h5, _, _, hn5, hs5⟩ := row_shape HR4.out
   injection h5 with e1 _ e3
   subst e1; subst e3
   cases A4 with
   | none => exfalso; have := (hn5 rfl).1; rw [ints_length] at this; omega
   | some a4 =>
    obtain ⟨b4, rfl, _⟩ := hs5 a4 rfl
    have e4 := own_cell HR4.out m (.int .i64 (i : Int)) (by unfold ints; rw [List.map_map, List.getElem?_map, hi]; rfl)
    obtain ⟨_, Az, cz, _, _, z0, z1, z2, z3, z4, z5⟩ := HT4.out.1.row hri
    have x0 : w4.cell? ⟨w.heap.size, 0, none⟩ = some (.slice (some ad) L.length c) := cell_row HX4.out 0 _ rfl
    have hi0 : (0 : Int) ≤ (i : Int) := by omega
    have hi1 : (i : Int) < (L.length : Int) := by omega
    clear z1 z2 z3 z4 z5 hn5 hs5 hri hi hil hm hn
    go_upto_region 7 with (fail)
    go_quiet (fail)
    go_wp2_with fail
    go_ret2
    rw [HE.out]
    exact ⟨rfl, HB4.out.trans ⟨rfl, rfl, rfl, Nat.le_refl _, fun _ _ => rfl⟩⟩
  ·have HE : Hid (a = (0, false)) := by
    show _ = _
    rw [HA.out, List.getElem?_eq_none (by omega)]
   have hmi' : ((ints K).length : Int) ≤ (m : Int) := by rw [ints_length]; omega
   clear hm hn
   go_wp2_with fail
   go_ret2
   rw [HE.out]
   exact ⟨rfl, HB4.out⟩
end Go.Proofs.YtmkgajdgnmolkaaGreat

/-
  Texts of this claim, joined (by a program of the claim's author): GRRd, GRKi, GRSp, RPart.
-/
import Derived.Test.YtmkgajdgnmolkaaGreatR1
import Derived.Test.YtmkgajdgnmolkaaGreatR9
import Derived.Test.YtmkgajdgnmolkaaGreatR3
import Derived.Test.YtmkgajdgnmolkaaGreatR4
import Derived.Deep.QuietTactic
import Derived.BigQuiet
import Derived.IntWalk
import Derived.Test.YtmkgajdgnmolkaaGreatR2
namespace Go.Proofs.YtmkgajdgnmolkaaGreat
set_option maxRecDepth 100000
set_option maxHeartbeats 16000000
section
open Go.RowKit Go.Shelf
variable {X : Nat → Prop}
theorem RFind_any (L : List RowD) (A : Option Addr) (c : Nat) (next id : Int) (w : World) (hL : RowsAt X w w.heap.size A L) (hs : SmallRows L) (r : Int) (hr : Hid (findI L id = r)) :
  Calls Tryz.prog 52 #[.agg #[.slice A L.length c, .int .i64 next], .int .i64 id] w (Ret w (.int .i64 r)) := by
 have HL := Lib.hid hL
 obtain ⟨hs1, hs2⟩ := hs
 have HS := Lib.hid hs2
 have hn1 : (L.length : Int) ≤ 1000000 := by omega
 have hn0 : (0 : Int) ≤ (L.length : Int) := by omega
 obtain ⟨W1, hW1⟩ : ∃ W1, Hid (W1 = w.alloc (.cells #[.slice A L.length c, .int .i64 next] 29)) := ⟨_, rfl⟩
 have hb1 : Below w.heap.size w W1 := by rw [hW1.out]; exact (Below.refl _ w).alloc (Nat.le_refl _) _
 have hX1 : W1.heap[w.heap.size]? = some (.cells #[.slice A L.length c, .int .i64 next] 29 (0, 0)) := by rw [hW1.out]; exact heap_alloc_new w _
 have hz1 : w.heap.size < W1.heap.size := by rw [hW1.out]; simp
 have HB1 := Lib.hid hb1
 have HX1 := Lib.hid hX1
 have HZ1 := Lib.hid hz1
 have HL1 := Lib.hid ((hL.below hb1).more (Nat.le_of_lt hz1))
 clear hb1 hX1 hz1 hL hs2
 go_enter Tryz.func52, Tryz.ntmps52
 go_wp2_with fail
 rw [← hW1.out]
 go_loopw [5] (fun i wr => ∃ k : Nat, k ≤ L.length ∧ i = .int .i64 (k : Int) ∧ Hid (∀ j z, j < k → L[j]? = some z → z.id ≠ id) ∧ Hid (Below W1.heap.size W1 wr)) (fun i _ => L.length - (intOf i).toNat)
 case atStart => exact ⟨0, Nat.zero_le _, rfl, fun j z hj => by omega, Below.refl _ _⟩
 case round =>
  obtain ⟨k, hk, rfl, hno, hbel⟩ := hrel
  have hX := (hbel.out.block _ HZ1.out).trans HX1.out
  have t0 := cell_row hX 0 _ rfl
  have t1 := cell_row hX 1 _ rfl
  have HLr := Lib.hid (HL1.out.below hbel.out)
  clear hX
  by_cases hlt : k < L.length
  ·obtain ⟨ad, hAd, _⟩ := HLr.out (by omega)
   subst hAd
   obtain ⟨z, hz⟩ : ∃ z, Hid (L[k]? = some z) := ⟨L[k], List.getElem?_eq_getElem _⟩
   obtain ⟨_, A', c', _, _, k0, k1, k2, k3, k4, k5⟩ := HLr.out.row hz.out
   have k00 : (0 : Int) ≤ (k : Int) := by omega
   have hlt' : (k : Int) < L.length := by omega
   clear k1 k2 k3 k4 k5
   by_cases hzi : z.id = id
   ·have hb : (z.id == id) = true := by simpa using hzi
    have hf : Hid (r = (k : Int)) := by
     show _ = _
     rw [← hr.out]
     unfold findI
     rw [find_hit L k z id hno.out hz.out hzi]
    clear hzi
    go_wp2_with fail
    go_ret
    exact ⟨by rw [hf.out]; rfl, HB1.out.trans (hbel.out.mono HB1.out.size)⟩
   ·have hb : (z.id == id) = false := by simpa using hzi
    have hno' : Hid (∀ j z, j < k + 1 → L[j]? = some z → z.id ≠ id) := fun j z' hj hz' => by
     by_cases e : j = k
     ·subst e; rw [hz.out] at hz'; injection hz' with hz'; rw [← hz']; exact hzi
     ·exact hno.out j z' (by omega) hz'
    clear hzi
    go_wp2_with fail
    go_roundw
    case rel => exact ⟨k + 1, by omega, by go_num, hno'.out, hbel.out⟩
    case measure => simp [intOf]; omega
  ·have hlt' : ¬ (k : Int) < L.length := by omega
   have hf : Hid (r = -1) := by
    show _ = _
    rw [← hr.out]
    unfold findI
    rw [find_miss fun j z hj hz => hno.out j z (by omega) hz]
   go_wp2_with fail
   go_ret
   exact ⟨by rw [hf.out]; rfl, HB1.out.trans (hbel.out.mono HB1.out.size)⟩
theorem Rend_g (L : List RowD) (A : Option Addr) (c : Nat) (next : Int) (m : Nat) (w : World) (hL : RowsAt X w w.heap.size A L) (hs : SmallRows L) (hm : m < L.length) (r : Nat) (hr : Hid (endL L m = r)) :
  Calls Tryz.prog 56 #[.agg #[.slice A L.length c, .int .i64 next], .int .i64 (m : Int)] w (Ret w (.int .i64 (r : Int))) := by
 have HL := Lib.hid hL
 obtain ⟨hs1, hs2⟩ := hs
 have HS := Lib.hid hs2
 have hn1 : (L.length : Int) ≤ 1000000 := by omega
 have hn0 : (0 : Int) ≤ (L.length : Int) := by omega
 obtain ⟨W1, hW1⟩ : ∃ W1, Hid (W1 = w.alloc (.cells #[.slice A L.length c, .int .i64 next] 29)) := ⟨_, rfl⟩
 have hb1 : Below w.heap.size w W1 := by rw [hW1.out]; exact (Below.refl _ w).alloc (Nat.le_refl _) _
 have hX1 : W1.heap[w.heap.size]? = some (.cells #[.slice A L.length c, .int .i64 next] 29 (0, 0)) := by rw [hW1.out]; exact heap_alloc_new w _
 have hz1 : w.heap.size < W1.heap.size := by rw [hW1.out]; simp
 have HB1 := Lib.hid hb1
 have HX1 := Lib.hid hX1
 have HZ1 := Lib.hid hz1
 have HL1 := Lib.hid ((hL.below hb1).more (Nat.le_of_lt hz1))
 clear hb1 hX1 hz1 hL hs2
 have m0 : (0 : Int) ≤ (m : Int) := by omega
 have m1 : (m : Int) < L.length := by omega
 have m2 : (m : Int) ≤ 1000000 := by omega
 obtain ⟨zm, hzm⟩ : ∃ z, Hid (L[m]? = some z) := ⟨L[m], List.getElem?_eq_getElem _⟩
 go_enter Tryz.func56, Tryz.ntmps56
 go_wp2_with fail
 rw [← hW1.out]
 go_loopw [5] (fun i wr => ∃ k : Nat, m < k ∧ k ≤ L.length ∧ i = .int .i64 (k : Int) ∧ Hid (∀ j z, m < j → j < k → L[j]? = some z → lvlL L m < z.x.level) ∧ Hid (Below W1.heap.size W1 wr)) (fun i _ => L.length - (intOf i).toNat)
 case atStart => exact ⟨m + 1, by omega, by omega, by go_num, fun j z hj hj' => by omega, Below.refl _ _⟩
 case round =>
  obtain ⟨k, hmk, hk, rfl, hno, hbel⟩ := hrel
  have hX := (hbel.out.block _ HZ1.out).trans HX1.out
  have t0 := cell_row hX 0 _ rfl
  have t1 := cell_row hX 1 _ rfl
  have HLr := Lib.hid (HL1.out.below hbel.out)
  clear hX
  by_cases hlt : k < L.length
  ·obtain ⟨ad, hAd, _⟩ := HLr.out (by omega)
   subst hAd
   obtain ⟨z, hz⟩ : ∃ z, Hid (L[k]? = some z) := ⟨L[k], List.getElem?_eq_getElem _⟩
   obtain ⟨_, A', c', _, _, k0, k1, k2, k3, k4, k5⟩ := HLr.out.row hz.out
   obtain ⟨_, A2, c2, _, _, g0, g1, g2, g3, g4, g5⟩ := HLr.out.row hzm.out
   have k00 : (0 : Int) ≤ (k : Int) := by omega
   have hlt' : (k : Int) < L.length := by omega
   clear k0 k2 k3 k4 k5 g0 g2 g3 g4 g5
   by_cases hzi : z.x.level ≤ zm.x.level
   ·have hb : decide (z.x.level ≤ zm.x.level) = true := decide_eq_true hzi
    have hf : Hid (r = k) := by
     show _ = _
     rw [← hr.out]
     refine end_hit hmk hk hno.out fun z' hz' => ?_
     rw [hz.out] at hz'; injection hz' with hz'
     rw [← hz', lvl_get hzm.out]; exact hzi
    clear hzi
    go_wp2_with fail
    go_quiet (fail)
    go_wp2_with fail
    go_ret
    exact ⟨by rw [hf.out]; rfl, (HB1.out.trans (hbel.out.mono HB1.out.size)).trans ⟨rfl, rfl, rfl, Nat.le_refl _, fun _ _ => rfl⟩⟩
   ·have hb : decide (z.x.level ≤ zm.x.level) = false := decide_eq_false hzi
    have hno' : Hid (∀ j z, m < j → j < k + 1 → L[j]? = some z → lvlL L m < z.x.level) := fun j z' hj hj' hz' => by
     by_cases e : j = k
     ·subst e; rw [hz.out] at hz'; injection hz' with hz'; rw [← hz', lvl_get hzm.out]; omega
     ·exact hno.out j z' hj (by omega) hz'
    clear hzi
    go_wp2_with fail
    go_quiet (fail)
    go_wp2_with fail
    go_roundw
    case rel => exact ⟨k + 1, by omega, by omega, by go_num, hno'.out, hbel.out.trans ⟨rfl, rfl, rfl, Nat.le_refl _, fun _ _ => rfl⟩⟩
    case measure => simp [intOf]; omega
  ·have hlt' : ¬ (k : Int) < L.length := by omega
   have hf : Hid (r = L.length) := by
    show _ = _
    rw [← hr.out]
    exact end_hit (by omega) (Nat.le_refl _) (fun j z hj hj' hz => hno.out j z hj (by omega) hz) (fun z hz => by simp at hz)
   go_wp2_with fail
   go_ret
   exact ⟨by rw [hf.out]; rfl, HB1.out.trans (hbel.out.mono HB1.out.size)⟩
def rootL (L : List RowD) : Int := match L with
 | [] => 0
 | r :: _ => r.id
theorem RRoot_any (L : List RowD) (A : Option Addr) (c : Nat) (next : Int) (w : World) (hL : RowsAt X w w.heap.size A L) (hs : SmallRows L) (r : Int) (hr : Hid (rootL L = r)) :
  Calls Tryz.prog 40 #[.agg #[.slice A L.length c, .int .i64 next]] w (Ret w (.int .i64 r)) := by
 have HL := Lib.hid hL
 obtain ⟨hs1, hs2⟩ := hs
 have HS := Lib.hid hs2
 have hn1 : (L.length : Int) ≤ 1000000 := by omega
 have hn0 : (0 : Int) ≤ (L.length : Int) := by omega
 obtain ⟨W1, hW1⟩ : ∃ W1, Hid (W1 = w.alloc (.cells #[.slice A L.length c, .int .i64 next] 29)) := ⟨_, rfl⟩
 have hb1 : Below w.heap.size w W1 := by rw [hW1.out]; exact (Below.refl _ w).alloc (Nat.le_refl _) _
 have hX1 : W1.heap[w.heap.size]? = some (.cells #[.slice A L.length c, .int .i64 next] 29 (0, 0)) := by rw [hW1.out]; exact heap_alloc_new w _
 have hz1 : w.heap.size < W1.heap.size := by rw [hW1.out]; simp
 have HB1 := Lib.hid hb1
 have HX1 := Lib.hid hX1
 have HZ1 := Lib.hid hz1
 have HL1 := Lib.hid ((hL.below hb1).more (Nat.le_of_lt hz1))
 clear hb1 hX1 hz1 hL hs2
 cases L with
 | nil =>
  have hf : Hid (r = 0) := by show _ = _; rw [← hr.out]; rfl
  go_enter Tryz.func40, Tryz.ntmps40
  go_wp2_with fail
  go_ret
  exact ⟨by rw [hf.out]; rfl, by have := HB1.out; rw [hW1.out] at this; exact this⟩
 | cons z L =>
  have hf : Hid (r = z.id) := by show _ = _; rw [← hr.out]; rfl
  obtain ⟨ad, hAd, _⟩ := HL1.out (by simp)
  subst hAd
  obtain ⟨_, A', c', _, _, k0, k1, k2, k3, k4, k5⟩ := HL1.out.row (k := 0) (r := z) rfl
  obtain ⟨m, hm⟩ : ∃ m, Hid ((z :: L).length = m) := ⟨_, rfl⟩
  have hm0 : (0 : Int) < (m : Int) := by have := hm.out; simp at this; omega
  have hm1 : ((m : Int) == 0) = false := by simp; omega
  have k0' : W1.cell? ad = some (.int .i64 z.id) := by
   have h0 : ad.add (0 * 6) = ad := by cases ad; simp [Addr.add]
   rw [h0] at k0; exact k0
  have hX1 := HX1.out
  have hW1' := hW1.out
  rw [hm.out] at hX1 hW1' hn1 hn0 ⊢
  have t0 := cell_row hX1 0 _ rfl
  rw [hW1'] at k0 k0' t0
  clear k1 k2 k3 k4 k5 hX1
  go_enter Tryz.func40, Tryz.ntmps40
  go_wp2_with fail
  go_ret
  exact ⟨by rw [hf.out]; rfl, by have := HB1.out; rw [hW1'] at this; exact this⟩
end
section
open Go.RowKit Go.Shelf
variable {X : Nat → Prop}
def ints (l : List Nat) : List Int := l.map fun (k : Nat) => (k : Int)
theorem ints_length (l : List Nat) : (ints l).length = l.length := by unfold ints; simp
theorem Rkids_g (L : List RowD) (A : Option Addr) (c : Nat) (next : Int) (m : Nat) (w : World) (hL : RowsAt X w w.heap.size A L) (hs : SmallRows L) (hm : m < L.length) :
  Calls Tryz.prog 54 #[.agg #[.slice A L.length c, .int .i64 next], .int .i64 (m : Int)] w fun er w' => ∃ A2 c2, er = .returned (.slice A2 (ints (kidsL L m)).length c2) ∧ intRow w' (.slice A2 (ints (kidsL L m)).length c2) (ints (kidsL L m)) ∧ Below w.heap.size w w' := by
 have HL := Lib.hid hL
 obtain ⟨hs1, hs2⟩ := hs
 have HS := Lib.hid hs2
 have hn1 : (L.length : Int) ≤ 1000000 := by omega
 have hn0 : (0 : Int) ≤ (L.length : Int) := by omega
 obtain ⟨W1, hW1⟩ : ∃ W1, Hid (W1 = w.alloc (.cells #[.slice A L.length c, .int .i64 next] 29)) := ⟨_, rfl⟩
 have hb1 : Below w.heap.size w W1 := by rw [hW1.out]; exact (Below.refl _ w).alloc (Nat.le_refl _) _
 have hX1 : W1.heap[w.heap.size]? = some (.cells #[.slice A L.length c, .int .i64 next] 29 (0, 0)) := by rw [hW1.out]; exact heap_alloc_new w _
 have hz1 : w.heap.size < W1.heap.size := by rw [hW1.out]; simp
 have HB1 := Lib.hid hb1
 have HX1 := Lib.hid hX1
 have HZ1 := Lib.hid hz1
 have HL1 := Lib.hid ((hL.below hb1).more (Nat.le_of_lt hz1))
 clear hb1 hX1 hz1 hL hs2
 have m0 : (0 : Int) ≤ (m : Int) := by omega
 have m1 : (m : Int) < L.length := by omega
 have m2 : (m : Int) ≤ 1000000 := by omega
 obtain ⟨zm, hzm⟩ : ∃ z, Hid (L[m]? = some z) := ⟨L[m], List.getElem?_eq_getElem _⟩
 obtain ⟨⟨l0, l1⟩, _⟩ := HS.out zm (List.mem_of_getElem? hzm.out)
 obtain ⟨E, hE⟩ : ∃ E, Hid (endL L m = E) := ⟨_, rfl⟩
 have hEl := end_le hm
 rw [hE.out] at hEl
 obtain ⟨hE0, hE1⟩ := hEl
 have hE2 : (E : Int) ≤ 1000000 := by omega
 have HEB : Hid (E = m + 1 + (belowL L m).length) := hE.out.symm
 have hw0 : IntKind.i64.wrap ((m : Int) + 1) = (m : Int) + 1 := IntWalk.i64_in _ (by omega)
 go_enter Tryz.func54, Tryz.ntmps54
 go_wp2_with fail
 rw [← hW1.out]
 clear hw0
 go_loopw [5, 6] (fun o i wr => ∃ (k : Nat) (A2 : Option Addr) (c2 : Nat) (l : List Int), m < k ∧ k ≤ E ∧ i = .int .i64 (k : Int) ∧ o = .slice A2 l.length c2 ∧ Hid (l = ints (posL (lvlL L m + 1) (m + 1) ((belowL L m).take (k - (m + 1))))) ∧ Hid (intRow wr (.slice A2 l.length c2) l) ∧
  Hid (∀ b, (Value.slice A2 l.length c2).ownBlock = some b → W1.heap.size ≤ b) ∧ Hid (Below W1.heap.size W1 wr)) (fun _ i _ => E - (intOf i).toNat)
 case atStart => exact ⟨m + 1, none, 0, [], by omega, by omega, by go_num, rfl, by show _ = _; simp [ints, posL], ⟨by simp, .inl ⟨rfl, rfl⟩⟩, fun b hb => by simp [Value.ownBlock] at hb, Below.refl _ _⟩
 case round =>
  obtain ⟨k, A2, c2, l, hmk, hk, rfl, rfl, hl, hrow, hfr, hbel⟩ := hrel
  have hX := (hbel.out.block _ HZ1.out).trans HX1.out
  have t0 := cell_row hX 0 _ rfl
  have t1 := cell_row hX 1 _ rfl
  have HLr := Lib.hid (HL1.out.below hbel.out)
  clear hX
  have hll : l.length ≤ 1000000 := by
   rw [hl.out, ints_length]
   have := posL_len (lvlL L m + 1) ((belowL L m).take (k - (m + 1))) (m + 1)
   rw [List.length_take] at this
   omega
  obtain ⟨ad, hAd, _⟩ := HLr.out (by omega)
  subst hAd
  by_cases hlt : k < E
  ·obtain ⟨z, hz⟩ : ∃ z, Hid (L[k]? = some z) := ⟨L[k], List.getElem?_eq_getElem _⟩
   have k00 : (0 : Int) ≤ (k : Int) := by omega
   have hltE : (k : Int) < (E : Int) := by omega
   have hltL : (k : Int) < L.length := by omega
   have hbz : (belowL L m)[k - (m + 1)]? = some z := by
    rw [below_get (by rw [hE.out]; omega), show m + 1 + (k - (m + 1)) = k by omega]; exact hz.out
   have hsn := posL_snoc (lvlL L m + 1) (m + 1) hbz
   rw [show k - (m + 1) + 1 = k + 1 - (m + 1) by omega, show m + 1 + (k - (m + 1)) = k by omega] at hsn
   have HSN := Lib.hid hsn
   have hlv : Hid (lvlL L m = zm.x.level) := lvl_get hzm.out
   have hwr : IntKind.i64.wrap (zm.x.level + 1) = zm.x.level + 1 := IntWalk.i64_in _ (by omega)
   clear hsn hbz
   by_cases hzi : z.x.level = zm.x.level + 1
   ·have hb : (z.x.level == zm.x.level + 1) = true := by simpa using hzi
    have hnew : Hid (l ++ [(k : Int)] = ints (posL (lvlL L m + 1) (m + 1) ((belowL L m).take (k + 1 - (m + 1))))) := by
     show _ = _
     rw [HSN.out, if_pos (by rw [hlv.out]; exact hzi), hl.out]
     simp [ints]
    clear hzi
    go_wp2_with fail
    refine (Rend_g L (some ad) c next m wr ((HLr.out).more hbel.out.size) ⟨hs1, HS.out⟩ hm E hE).mono ?_
    rintro e2 w2 ⟨rfl, hb2⟩
    have HLr2 := Lib.hid (HL1.out.below (hbel.out.trans (hb2.mono hbel.out.size)))
    have hbel2 : Below W1.heap.size W1 w2 := hbel.out.trans (hb2.mono hbel.out.size)
    have HB2 := Lib.hid hbel2
    have hX2 := (hbel2.block _ HZ1.out).trans HX1.out
    have s0 := cell_row hX2 0 _ rfl
    have s1 := cell_row hX2 1 _ rfl
    have HROW2 : Hid (intRow w2 (.slice A2 l.length c2) l) := row_block hrow.out fun b hb => hb2.block b (row_lt hrow.out hb)
    clear t0 t1 hb2 hbel2 hX2
    obtain ⟨_, A', c', _, _, k0, k1, k2, k3, k4, k5⟩ := HLr2.out.row hz.out
    obtain ⟨_, A3, c3, _, _, g0, g1, g2, g3, g4, g5⟩ := HLr2.out.row hzm.out
    clear k0 k2 k3 k4 k5 g0 g2 g3 g4 g5
    go_wp2_with fail
    go_quiet (fail)
    obtain ⟨W3, hW3⟩ : ∃ W3, Hid (w2.drewN nq = W3) := ⟨_, rfl⟩
    rw [hW3.out]
    have hb3 : Below w2.heap.size w2 W3 := by rw [← hW3.out]; exact ⟨rfl, rfl, rfl, Nat.le_refl _, fun _ _ => rfl⟩
    have hrow3 : intRow W3 (.slice A2 l.length c2) l := row_block HROW2.out fun b hb => hb3.block b (row_lt HROW2.out hb)
    have HB3 : Hid (Below W1.heap.size W1 W3) := HB2.out.trans (hb3.mono HB2.out.size)
    obtain ⟨pa, pn, pc, w4, hr4, hpn, hrow4, hg4, hf4⟩ := run_append_int hrow3 hll (k : Int)
    subst hpn
    have hb4 : Below W1.heap.size W1 w4 := ⟨hg4.os.trans HB3.out.os, hg4.tape.trans HB3.out.tape, hg4.output.trans HB3.out.output, Nat.le_trans HB3.out.size hg4.size, fun b hb => (hg4.block b (Nat.lt_of_lt_of_le hb HB3.out.size) (fun h' => by have := hfr.out b h'.symm; omega)).trans (HB3.out.block b hb)⟩
    have hfr4 : ∀ b, (Value.slice pa (l.length + 1) pc).ownBlock = some b → W1.heap.size ≤ b := fun b hb => by
     rcases hf4 b hb with h' | h'
     ·exact hfr.out b h'
     ·have := HB3.out.size; omega
    have HB4 := Lib.hid hb4
    have HR4 := Lib.hid hrow4
    have HF4 := Lib.hid hfr4
    clear hb3 hrow3 hrow4 hg4 hf4 hb4 hfr4 hwr s0 s1 k1 g1
    go_wp2_with (at_builtin; refine wpList_append_runI _ rfl _ _ 43 rfl (.slice A2 l.length c2) (.slice (some ⟨W3.heap.size, 0, none⟩) 1 1) (by simp [Act.eval]) (by simp [Act.eval]) hr4 ?_)
    go_roundw
    case rel => exact ⟨k + 1, pa, pc, l ++ [(k : Int)], by omega, by omega, by go_num, by simp, hnew.out, by show intRow _ _ _; simpa using HR4.out, by show ∀ b, _; simpa using HF4.out, HB4.out⟩
    case measure => simp [intOf]; omega
   ·have hb : (z.x.level == zm.x.level + 1) = false := by simpa using hzi
    have hnew : Hid (l = ints (posL (lvlL L m + 1) (m + 1) ((belowL L m).take (k + 1 - (m + 1))))) := by
     show _ = _
     rw [HSN.out, if_neg (by rw [hlv.out]; exact hzi), List.append_nil]
     exact hl.out
    clear hzi
    go_wp2_with fail
    refine (Rend_g L (some ad) c next m wr ((HLr.out).more hbel.out.size) ⟨hs1, HS.out⟩ hm E hE).mono ?_
    rintro e2 w2 ⟨rfl, hb2⟩
    have HLr2 := Lib.hid (HL1.out.below (hbel.out.trans (hb2.mono hbel.out.size)))
    have hbel2 : Below W1.heap.size W1 w2 := hbel.out.trans (hb2.mono hbel.out.size)
    have HB2 := Lib.hid hbel2
    have hX2 := (hbel2.block _ HZ1.out).trans HX1.out
    have s0 := cell_row hX2 0 _ rfl
    have s1 := cell_row hX2 1 _ rfl
    have HROW2 : Hid (intRow w2 (.slice A2 l.length c2) l) := row_block hrow.out fun b hb => hb2.block b (row_lt hrow.out hb)
    clear t0 t1 hb2 hbel2 hX2
    obtain ⟨_, A', c', _, _, k0, k1, k2, k3, k4, k5⟩ := HLr2.out.row hz.out
    obtain ⟨_, A3, c3, _, _, g0, g1, g2, g3, g4, g5⟩ := HLr2.out.row hzm.out
    clear k0 k2 k3 k4 k5 g0 g2 g3 g4 g5
    go_wp2_with fail
    go_quiet (fail)
    clear hwr s0 s1 k1 g1
    go_wp2_with fail
    go_roundw
    case rel => exact ⟨k + 1, A2, c2, l, by omega, by omega, by go_num, rfl, hnew.out, row_block HROW2.out fun b hb => rfl, hfr.out, HB2.out.trans ⟨rfl, rfl, rfl, Nat.le_refl _, fun _ _ => rfl⟩⟩
    case measure => simp [intOf]; omega
  ·have hltE : ¬ (k : Int) < (E : Int) := by omega
   have hfin : Hid (l = ints (kidsL L m)) := by
    show _ = _
    rw [hl.out, List.take_of_length_le (by have := HEB.out; omega)]
    rfl
   go_wp2_with fail
   refine (Rend_g L (some ad) c next m wr ((HLr.out).more hbel.out.size) ⟨hs1, HS.out⟩ hm E hE).mono ?_
   rintro e2 w2 ⟨rfl, hb2⟩
   have HLr2 := Lib.hid (HL1.out.below (hbel.out.trans (hb2.mono hbel.out.size)))
   have hbel2 : Below W1.heap.size W1 w2 := hbel.out.trans (hb2.mono hbel.out.size)
   have HB2 := Lib.hid hbel2
   have hX2 := (hbel2.block _ HZ1.out).trans HX1.out
   have s0 := cell_row hX2 0 _ rfl
   have s1 := cell_row hX2 1 _ rfl
   have HROW2 : Hid (intRow w2 (.slice A2 l.length c2) l) := row_block hrow.out fun b hb => hb2.block b (row_lt hrow.out hb)
   clear t0 t1 hb2 hbel2 hX2
   go_wp2_with fail
   go_ret
   rw [← hfin.out]
   exact ⟨A2, c2, rfl, HROW2.out, HB1.out.trans (HB2.out.mono HB1.out.size)⟩
end
section
open Go.RowKit Go.Shelf
variable {X : Nat → Prop}
theorem ints_get {l : List Nat} {k x : Nat} (h : l[k]? = some x) : (ints l)[k]? = some (x : Int) := by unfold ints; rw [List.getElem?_map, h]; rfl
theorem Rspot_g (L : List RowD) (A : Option Addr) (c : Nat) (next : Int) (m pl : Nat) (w : World) (hL : RowsAt X w w.heap.size A L) (hs : SmallRows L) (hm : m < L.length) (hpl : pl ≤ 1000000) (r : Nat) (hr : Hid (spotL L m pl = r)) :
  Calls Tryz.prog 87 #[.agg #[.slice A L.length c, .int .i64 next], .int .i64 (m : Int), .int .i64 (pl : Int)] w (Ret w (.int .i64 (r : Int))) := by
 obtain ⟨W1, hW1⟩ : ∃ W1, Hid (W1 = w.alloc (.cells #[.slice A L.length c, .int .i64 next] 29)) := ⟨_, rfl⟩
 have hb1 : Below w.heap.size w W1 := by rw [hW1.out]; exact (Below.refl _ w).alloc (Nat.le_refl _) _
 have hX1 : W1.heap[w.heap.size]? = some (.cells #[.slice A L.length c, .int .i64 next] 29 (0, 0)) := by rw [hW1.out]; exact heap_alloc_new w _
 have hz1 : w.heap.size < W1.heap.size := by rw [hW1.out]; simp
 have HB1 := Lib.hid hb1
 have HX1 := Lib.hid hX1
 have HZ1 := Lib.hid hz1
 have HL1 := Lib.hid ((hL.below hb1).more (Nat.le_of_lt hz1))
 have HS := Lib.hid hs
 have p0 : (0 : Int) ≤ (pl : Int) := by omega
 have p1 : (pl : Int) ≤ 1000000 := by omega
 clear hb1 hX1 hz1 hL hs
 go_enter Tryz.func87, Tryz.ntmps87
 go_wp2_with fail
 rw [← hW1.out]
 refine (Rkids_g L A c next m W1 HL1.out HS.out hm).mono ?_
 rintro e w2 ⟨A2, c2, rfl, hrow, hb2⟩
 have hb2w : Below w.heap.size w w2 := HB1.out.trans (hb2.mono HB1.out.size)
 have hX2 := (hb2.block _ HZ1.out).trans HX1.out
 have HL2 := Lib.hid (((HL1.out.below hb2)).more hb2.size)
 have HB2 := Lib.hid hb2w
 have t0 := cell_row hX2 0 _ rfl
 have t1 := cell_row hX2 1 _ rfl
 obtain ⟨n, hn⟩ : ∃ n, Hid ((ints (kidsL L m)).length = n) := ⟨_, rfl⟩
 have hnl : n = (kidsL L m).length := by rw [← hn.out, ints_length]
 have HNL := Lib.hid hnl
 obtain ⟨_, _, hv, hcap, hcm, hnil, hsome⟩ := row_shape hrow
 injection hv with e1 _ e3
 subst e1; subst e3
 have HROW := Lib.hid hrow
 have HSO := Lib.hid hsome
 have HNI := Lib.hid hnil
 rw [hn.out]
 have n0 : (0 : Int) ≤ (n : Int) := by omega
 have n1 : (n : Int) ≤ 1000000 := by
  have h1 := posL_len (lvlL L m + 1) (belowL L m) (m + 1)
  have h2 := end_le hm
  have h3 : endL L m = m + 1 + (belowL L m).length := rfl
  have h4 := HS.out.1
  have h5 : (kidsL L m).length = (posL (lvlL L m + 1) (m + 1) (belowL L m)).length := rfl
  rw [hnl, h5]; omega
 clear hb2 hb2w hX2 hnl hcap hcm hnil hsome hrow
 by_cases hlt : pl < n
 ·have hlt' : (pl : Int) < (n : Int) := by omega
  obtain ⟨x, hx⟩ : ∃ x, Hid ((kidsL L m)[pl]? = some x) := ⟨(kidsL L m)[pl]'(by have := HNL.out; omega), List.getElem?_eq_getElem _⟩
  have hf : Hid (r = x) := by show _ = _; rw [← hr.out]; unfold spotL; rw [hx.out]
  cases A2 with
  | none => exfalso; have := (HNI.out rfl).1; rw [hn.out] at this; omega
  | some a2 =>
   obtain ⟨b2, rfl, _⟩ := HSO.out a2 rfl
   have e4 := own_cell HROW.out pl (.int .i64 (x : Int)) (by rw [List.getElem?_map, ints_get hx.out]; rfl)
   go_wp2_with fail
   go_ret
   exact ⟨by rw [hf.out]; rfl, HB2.out⟩
 ·have hlt' : ¬ (pl : Int) < (n : Int) := by omega
  have hf : Hid (endL L m = r) := by
   show _ = _
   rw [← hr.out]
   unfold spotL
   rw [List.getElem?_eq_none (by have := HNL.out; omega)]
  go_wp2_with fail
  refine (Rend_g L A c next m w2 HL2.out HS.out hm r hf).mono ?_
  rintro e3 w3 ⟨rfl, hb3⟩
  have HB3 : Hid (Below w.heap.size w w3) := HB2.out.trans (hb3.mono HB2.out.size)
  clear hb3
  go_wp2_with fail
  go_ret
  exact ⟨rfl, HB3.out⟩
theorem Rwithout_g (L : List RowD) (ad : Addr) (c : Nat) (next : Int) (k : Nat) (w : World) (hL : RowsAt X w w.heap.size (some ad) L) (hs : SmallRows L) (hc : SliceOk (some ad) L.length c) (hk : k < L.length) :
  Calls Tryz.prog 88 #[.agg #[.slice (some ad) L.length c, .int .i64 next], .int .i64 (k : Int)] w fun er w' => ∃ A2 c2 S, er = .returned (.agg #[.slice A2 S.length c2, .int .i64 next]) ∧ S.map (·.1) = withoutL L k ∧ RowsOwn w' w.heap.size A2 c2 S ∧ AttrsOf X w w.heap.size S ∧ Below w.heap.size w w' := by
 obtain ⟨T, t1, t2, t3⟩ := slots_all hL
 obtain ⟨hc1, hc2, _⟩ := hc
 obtain ⟨E, hE⟩ : ∃ E, Hid (endL L k = E) := ⟨_, rfl⟩
 have hEl := end_le hk
 rw [hE.out] at hEl
 obtain ⟨hE0, hE1⟩ := hEl
 have hs1 := hs.1
 have HLL := Lib.hid hL
 have HS := Lib.hid hs
 have HK : Hid (k < L.length) := hk
 obtain ⟨n, hn⟩ : ∃ n, Hid (L.length = n) := ⟨_, rfl⟩
 have hendc : ∀ W : World, Below w.heap.size w W → w.heap.size ≤ W.heap.size → Calls Tryz.prog 56 #[.agg #[.slice (some ad) n c, .int .i64 next], .int .i64 (k : Int)] W (Ret W (.int .i64 (E : Int))) := fun W hb hz => by
  rw [← hn.out]
  exact Rend_g L (some ad) c next k W ((HLL.out.below hb).more hz) HS.out HK.out E hE
 have HENDC := Lib.hid hendc
 rw [hn.out] at hc1 hk hE1 hs1 ⊢
 have hk0 : (0 : Int) ≤ (k : Int) := by omega
 have hk1 : (k : Int) ≤ (n : Int) := by omega
 have hk2 : (k : Int) ≤ (c : Int) := by omega
 have hkc : k ≤ c := by omega
 have hE2 : (E : Int) ≤ (n : Int) := by omega
 have hE3 : (0 : Int) ≤ (E : Int) := by omega
 have hE4 : (E : Int) ≤ (c : Int) := by omega
 have hnc : (n : Int) ≤ (c : Int) := by omega
 have hT : T.length = n := by rw [← hn.out, ← t1, List.length_map]
 obtain ⟨W2, hW2⟩ : ∃ W2, Hid (W2 = (w.alloc (.cells #[.slice (some ad) n c, .int .i64 next] 29)).alloc (.cells #[.slice none 0 0, .int .i64 0] 29)) := ⟨_, rfl⟩
 have hb2 : Below w.heap.size w W2 := by rw [hW2.out]; exact ((Below.refl _ w).alloc (Nat.le_refl _) _).alloc (by simp) _
 have hz2 : W2.heap.size = w.heap.size + 2 := by rw [hW2.out]; simp
 have hx2 : W2.heap[w.heap.size]? = some (.cells #[.slice (some ad) n c, .int .i64 next] 29 (0, 0)) := by
  rw [hW2.out]
  exact (Below.heap_alloc _ _ _ (by simp)).trans (heap_alloc_new w _)
 have hy2 : W2.heap[w.heap.size + 1]? = some (.cells zeroT 29 (0, 0)) := by
  rw [hW2.out]
  have := heap_alloc_new (w.alloc (.cells #[.slice (some ad) n c, .int .i64 next] 29)) (.cells #[.slice none 0 0, .int .i64 0] 29)
  simpa [zeroT] using this
 have htk : (T.take k).length = k := by rw [List.length_take, hT]; omega
 obtain ⟨pa, pc, w3, hr3, hown3, hg3, hf3⟩ := run_append_any (RowsOwn.nil W2 0) (T.take k) (some ad) c ((t3.below hb2).take k) (by simp) (by rw [htk]; omega)
 rw [htk, List.length_nil, Nat.zero_add] at hr3 hf3
 rw [List.nil_append] at hown3
 have hb3 : Below W2.heap.size W2 w3 := ⟨hg3.os, hg3.tape, hg3.output, hg3.size, fun b hb => hg3.block b hb (by simp [Value.ownBlock])⟩
 have hfr3 : ∀ b, (Value.slice pa k pc).ownBlock = some b → W2.heap.size ≤ b := fun b hb => by
  rcases hf3 b hb with h | h
  ·simp [Value.ownBlock] at h
  ·exact h
 have hb3w : Below w.heap.size w w3 := hb2.trans (hb3.mono hb2.size)
 have hAx : Hid (∀ w5 : World, Below W2.heap.size W2 w5 → w5.heap[w.heap.size]? = some (.cells #[.slice (some ad) n c, .int .i64 next] 29 (0, 0)) ∧ w5.heap[w.heap.size + 1]? = some (.cells zeroT 29 (0, 0))) := fun w5 hb =>
  ⟨(hb.block _ (by omega)).trans hx2, (hb.block _ (by omega)).trans hy2⟩
 have a0 := cell_row hx2 0 _ rfl
 have a3 := cell_row ((hAx.out w3 hb3).1) 0 _ rfl
 have HB2 := Lib.hid hb2
 have HB3 := Lib.hid hb3
 have HB3W := Lib.hid hb3w
 have HT1 := Lib.hid t1
 have HT2 := Lib.hid t2
 have HT3 := Lib.hid t3
 have HOWN3 := Lib.hid hown3
 have HFR3 := Lib.hid hfr3
 have HZ2 := Lib.hid hz2
 have HTL := Lib.hid hT
 clear hx2 hy2 hb2 hb3 hb3w t1 t2 t3 hown3 hfr3 hg3 hf3 hT htk hz2 hendc hL hs
 have HEL : Hid (AttrsOf X w w.heap.size (T.take k ++ T.drop E) ∧ (T.take k ++ T.drop E).map (·.1) = withoutL L k ∧ (T.take k ++ T.drop E).length = k + (n - E)) := by
  refine ⟨AttrsOf.app (fun s hs => HT2.out s (List.mem_of_mem_take hs)) (fun s hs => HT2.out s (List.mem_of_mem_drop hs)), ?_, ?_⟩
  ·unfold withoutL
   rw [List.map_append, List.map_take, List.map_drop, HT1.out, hE.out]
  ·rw [List.length_append, List.length_take, List.length_drop, HTL.out]; omega
 have hrest : ∀ (w4 : World) (A5 : Option Addr), Below w3.heap.size w3 w4 → (c = E ∧ A5 = some ad ∨ A5 = some (ad.add (E * 6))) → ∃ pe pf w5, (Builtin.append_ #[27, 27] 27 #[.slice pa k pc, .slice A5 (n - E) (c - E)]).run Tryz.prog w4 = .ok (.slice pe (k + (n - E)) pf) w5 ∧
   Hid (RowsOwn w5 w.heap.size pe pf (T.take k ++ T.drop E)) ∧ Hid (Below W2.heap.size W2 w5) := by
  intro w4 A5 hb4 hA5
  have htk : (T.take k).length = k := by rw [List.length_take, HTL.out]; omega
  have hdk : (T.drop E).length = n - E := by rw [List.length_drop, HTL.out]
  have hb4w : Below w.heap.size w w4 := HB3W.out.trans (hb4.mono HB3W.out.size)
  have hown4 : RowsOwn w4 0 pa pc (T.take k) := HOWN3.out.keepB hb4
  have hsl : SlotsAt w4 w.heap.size A5 (T.drop E) := by
   rcases hA5 with ⟨h, h'⟩ | h
   ·intro hp; exfalso; rw [hdk] at hp; omega
   ·rw [h]; exact (HT3.out.below hb4w).drop E
  obtain ⟨pe, pf, w5, hr5, hown5, hg5, hf5⟩ := run_append_any hown4 (T.drop E) A5 (c - E) hsl (by rw [htk]; omega) (by rw [hdk]; omega)
  rw [htk, hdk] at hr5 hf5
  rw [htk] at hg5
  have hb4' : Below W2.heap.size W2 w4 := HB3.out.trans (hb4.mono HB3.out.size)
  refine ⟨pe, pf, w5, hr5, own_up hown5 fun b hb => ?_, hb4'.grown hg5 hb4'.size HFR3.out⟩
  rw [List.length_append, htk, hdk] at hb
  rcases hf5 b hb with h | h
  ·have := HFR3.out b h; have := HZ2.out; omega
  ·have := hb4'.size; have := HZ2.out; omega
 have HREST := Lib.hid hrest
 clear hrest
 rw [hW2.out] at hr3 a0
 have b3 := cell_row ((hAx.out w3 HB3.out).1) 1 _ rfl
 by_cases hck : c = E
 ·have hnE : n = E := by omega
  have hcE : Hid (c = E) := hck
  have HNE := Lib.hid hnE
  obtain ⟨C, hC⟩ : ∃ C, Hid (c - E = C ∧ n - E = C ∧ C = 0) := ⟨0, by show _ ∧ _; omega⟩
  have hck' : ((c : Int) = (E : Int)) := by omega
  have HREST' : Hid (∀ w4 : World, Below w3.heap.size w3 w4 → ∃ pe pf w5, (Builtin.append_ #[27, 27] 27 #[.slice pa k pc, .slice (some ad) 0 0]).run Tryz.prog w4 = .ok (.slice pe (k + 0) pf) w5 ∧
   Hid (RowsOwn w5 w.heap.size pe pf (T.take k ++ T.drop E)) ∧ Hid (Below W2.heap.size W2 w5)) := fun w4 hb4 => by
   obtain ⟨pe, pf, w5, q1, q2, q3⟩ := HREST.out w4 (some ad) hb4 (.inl ⟨hcE.out, rfl⟩)
   rw [hC.out.1, hC.out.2.1, hC.out.2.2] at q1
   exact ⟨pe, pf, w5, q1, q2, q3⟩
  have HEL' : Hid ((T.take k ++ T.drop E).length = k + 0) := by show _ = _; rw [HEL.out.2.2, hC.out.2.1, hC.out.2.2]
  obtain rfl : n = c := by omega
  obtain rfl : E = n := by omega
  clear hck hnE hck' hE0
  go_enter Tryz.func88, Tryz.ntmps88
  go_upto_region 3 with (at_builtin; refine wpList_append_runI _ rfl _ _ 27 rfl (.slice none 0 0) (.slice (some ad) k E) (by simp [Act.eval]) (by simp [Act.eval]) hr3 ?_)
  have HB3D : Hid (Below w.heap.size w w3.drew) := HB3W.out.trans ⟨rfl, rfl, rfl, Nat.le_refl _, fun _ _ => rfl⟩
  refine wp_region_held_drew (S := fun _ => True) (by kernel_rfl) trivial (fun hHeld => ?_)
  refine tkv 0 (h := tkv 1 (h := ?_))
  refine tkv 4 (h := ?_)
  refine wpAnyH_ready (rs := [2, 3]) (by kernel_rfl) (by simp) ?_
  refine AllReadyH.cons (o := ⟨_, _, _, _, _, _⟩) rfl (fun K hK => ?_) (AllReadyH.cons (o := ⟨_, _, _, _, _, _⟩) rfl (fun K hK => ?_) AllReadyH.nil)
  ·go_simp
   refine hK.out _ _ (trivial) (fun hHeld => ?_)
   clear hK K
   try go_frame
   refine rdy 3 (fun K hK => ?_)
   go_simp
   refine hK.out _ _ (trivial) (fun hHeld => ?_)
   clear hK K
   try go_frame
   refine rdy 5 (fun K hK => ?_)
   go_simp
   refine (HENDC.out w3.drew HB3D.out (by exact HB3D.out.size)).mono ?_
   rintro e4 w4 ⟨rfl, hb4⟩
   have hb4' : Below w3.heap.size w3 w4 := Below.trans (b := w3.drew) ⟨rfl, rfl, rfl, Nat.le_refl _, fun _ _ => rfl⟩ hb4
   have HB4 : Hid (Below W2.heap.size W2 w4) := HB3.out.trans (hb4'.mono HB3.out.size)
   have a4 := cell_row ((hAx.out w4 HB4.out).1) 0 _ rfl
   have b4 := cell_row ((hAx.out w4 HB4.out).1) 1 _ rfl
   obtain ⟨pe, pf, w5, hr5, HOWN5, HB5⟩ := HREST'.out w4 hb4'
   clear hb4 hb4'
   go_wp2_with fail
   refine hK.out _ _ (trivial) (fun hHeld => ?_)
   clear hK K
   try go_frame
   refine tkv 6 (h := ?_)
   refine rdy 7 (fun K hK => ?_)
   have c5 := cell_row (hAx.out w5 HB5.out).1 0 _ rfl
   have e5 := cell_row (hAx.out w5 HB5.out).1 1 _ rfl
   have f5 := free_row (hAx.out w5 HB5.out).1 0
   refine step_append_runI rfl (.tmp 12) (.tmp 18) 27 27 rfl (.slice pa k pc) (.slice (some ad) 0 0) (by simp [Act.eval]) (by simp [Act.eval]) hr5 ?_
   refine hK.out _ _ (trivial) (fun hHeld => ?_)
   clear hK K
   try go_frame
   refine tkv 8 (h := ?_)
   refine rdy 9 (fun K hK => ?_)
   go_simp
   clear c5 e5 f5 a4 b4
   have HB6 : Hid (Below w.heap.size w (w5.setCell ⟨w.heap.size, 0, none⟩ (.slice pe k pf))) := (HB2.out.trans (HB5.out.mono HB2.out.size)).setCell (Nat.le_refl _) _
   obtain ⟨w6, hw6⟩ : ∃ w6, Hid (w5.setCell ⟨w.heap.size, 0, none⟩ (.slice pe k pf) = w6) := ⟨_, rfl⟩
   rw [hw6.out] at HB6
   have hx6 : w6.heap[w.heap.size]? = some (.cells (treeV pe k pf next) 29 (0, 0)) := by rw [← hw6.out]; exact Lib.heap_setCell_same (i := 0) (hAx.out w5 HB5.out).1 _
   have HY6 : Hid (w6.heap[w.heap.size + 1]? = some (.cells zeroT 29 (0, 0))) := by
    show _ = _
    rw [← hw6.out, Below.heap_setCell _ _ _ _ (by show w.heap.size + 1 ≠ w.heap.size; omega)]
    exact (hAx.out w5 HB5.out).2
   have HOWN6 : Hid (RowsOwn w6 w.heap.size pe pf (T.take k ++ T.drop E)) := by
    show RowsOwn _ _ _ _ _
    rw [← hw6.out]
    exact row_block HOWN5.out fun b hb => Below.heap_setCell _ _ _ _ (fun e => by
     have e' : b = w.heap.size := e
     obtain ⟨cur, hcur⟩ := row_type (World.ownsRow.mono HOWN5.out (Nat.zero_le _)) hb
     rw [e', (hAx.out w5 HB5.out).1] at hcur
     injection hcur with hcur
     injection hcur with _ hcur _
     exact absurd hcur (by decide))
   have e0 := cell_row hx6 0 _ rfl
   have e1 := cell_row hx6 1 _ rfl
   clear hx6
   rw [hw6.out]
   refine hK.out _ _ (trivial) (fun hHeld => ?_)
   clear hK K
   try go_frame
   refine wpAnyH_done (by kernel_rfl) ?_ _
   go_wp2_with (refine wpList_store_row rfl 29 (.tmp 4) (.tmp 21) rfl (w.heap.size + 1) (treeV pe k pf next) rfl rfl 29 zeroT HY6.out (by kernel_rfl) rfl (treeV_one _ _ _ _) ?_)
   try simp only [Exit.inBlock, Exit.then]
   refine bodyPost_ret (results_cell_row Tryz.results88 _ _ (w.heap.size + 1) 29 (treeV pe k pf next) (0, 0) _ rfl (setRow_heap _ _ _ _ _ _ HY6.out) Tryz.underlying29 rfl (by kernel_rfl)) rfl ?_
   refine ⟨pe, pf, T.take k ++ T.drop E, by rw [HEL'.out]; rfl, HEL.out.2.1, row_block HOWN6.out fun b hb => setRow_other _ _ _ _ (fun e => ?_), HEL.out.1, ?_⟩
   ·obtain ⟨cur, hcur⟩ := row_type (World.ownsRow.mono HOWN6.out (Nat.zero_le _)) hb
    rw [e, HY6.out] at hcur
    injection hcur with hcur
    injection hcur with _ hcur _
    exact absurd hcur (by decide)
   ·have h1 := HB6.out
    exact ⟨h1.os, h1.tape, h1.output, by rw [setRow_size]; exact h1.size, fun b hb => (setRow_other _ _ _ _ (by omega)).trans (h1.block b hb)⟩
  ·go_simp
   refine hK.out _ _ (trivial) (fun hHeld => ?_)
   clear hK K
   try go_frame
   refine wpAnyH_ready (rs := [2, 5]) (by kernel_rfl) (by simp) ?_
   refine AllReadyH.cons (o := ⟨_, _, _, _, _, _⟩) rfl (fun K hK => ?_) (AllReadyH.cons (o := ⟨_, _, _, _, _, _⟩) rfl (fun K hK => ?_) AllReadyH.nil)
   ·go_simp
    refine hK.out _ _ (trivial) (fun hHeld => ?_)
    clear hK K
    try go_frame
    refine rdy 5 (fun K hK => ?_)
    go_simp
    refine (HENDC.out w3.drew HB3D.out (by exact HB3D.out.size)).mono ?_
    rintro e4 w4 ⟨rfl, hb4⟩
    have hb4' : Below w3.heap.size w3 w4 := Below.trans (b := w3.drew) ⟨rfl, rfl, rfl, Nat.le_refl _, fun _ _ => rfl⟩ hb4
    have HB4 : Hid (Below W2.heap.size W2 w4) := HB3.out.trans (hb4'.mono HB3.out.size)
    have a4 := cell_row ((hAx.out w4 HB4.out).1) 0 _ rfl
    have b4 := cell_row ((hAx.out w4 HB4.out).1) 1 _ rfl
    obtain ⟨pe, pf, w5, hr5, HOWN5, HB5⟩ := HREST'.out w4 hb4'
    clear hb4 hb4'
    go_wp2_with fail
    refine hK.out _ _ (trivial) (fun hHeld => ?_)
    clear hK K
    try go_frame
    refine tkv 6 (h := ?_)
    refine rdy 7 (fun K hK => ?_)
    have c5 := cell_row (hAx.out w5 HB5.out).1 0 _ rfl
    have e5 := cell_row (hAx.out w5 HB5.out).1 1 _ rfl
    have f5 := free_row (hAx.out w5 HB5.out).1 0
    refine step_append_runI rfl (.tmp 12) (.tmp 18) 27 27 rfl (.slice pa k pc) (.slice (some ad) 0 0) (by simp [Act.eval]) (by simp [Act.eval]) hr5 ?_
    refine hK.out _ _ (trivial) (fun hHeld => ?_)
    clear hK K
    try go_frame
    refine tkv 8 (h := ?_)
    refine rdy 9 (fun K hK => ?_)
    go_simp
    clear c5 e5 f5 a4 b4
    have HB6 : Hid (Below w.heap.size w (w5.setCell ⟨w.heap.size, 0, none⟩ (.slice pe k pf))) := (HB2.out.trans (HB5.out.mono HB2.out.size)).setCell (Nat.le_refl _) _
    obtain ⟨w6, hw6⟩ : ∃ w6, Hid (w5.setCell ⟨w.heap.size, 0, none⟩ (.slice pe k pf) = w6) := ⟨_, rfl⟩
    rw [hw6.out] at HB6
    have hx6 : w6.heap[w.heap.size]? = some (.cells (treeV pe k pf next) 29 (0, 0)) := by rw [← hw6.out]; exact Lib.heap_setCell_same (i := 0) (hAx.out w5 HB5.out).1 _
    have HY6 : Hid (w6.heap[w.heap.size + 1]? = some (.cells zeroT 29 (0, 0))) := by
     show _ = _
     rw [← hw6.out, Below.heap_setCell _ _ _ _ (by show w.heap.size + 1 ≠ w.heap.size; omega)]
     exact (hAx.out w5 HB5.out).2
    have HOWN6 : Hid (RowsOwn w6 w.heap.size pe pf (T.take k ++ T.drop E)) := by
     show RowsOwn _ _ _ _ _
     rw [← hw6.out]
     exact row_block HOWN5.out fun b hb => Below.heap_setCell _ _ _ _ (fun e => by
      have e' : b = w.heap.size := e
      obtain ⟨cur, hcur⟩ := row_type (World.ownsRow.mono HOWN5.out (Nat.zero_le _)) hb
      rw [e', (hAx.out w5 HB5.out).1] at hcur
      injection hcur with hcur
      injection hcur with _ hcur _
      exact absurd hcur (by decide))
    have e0 := cell_row hx6 0 _ rfl
    have e1 := cell_row hx6 1 _ rfl
    clear hx6
    rw [hw6.out]
    refine hK.out _ _ (trivial) (fun hHeld => ?_)
    clear hK K
    try go_frame
    refine wpAnyH_done (by kernel_rfl) ?_ _
    go_wp2_with (refine wpList_store_row rfl 29 (.tmp 4) (.tmp 21) rfl (w.heap.size + 1) (treeV pe k pf next) rfl rfl 29 zeroT HY6.out (by kernel_rfl) rfl (treeV_one _ _ _ _) ?_)
    try simp only [Exit.inBlock, Exit.then]
    refine bodyPost_ret (results_cell_row Tryz.results88 _ _ (w.heap.size + 1) 29 (treeV pe k pf next) (0, 0) _ rfl (setRow_heap _ _ _ _ _ _ HY6.out) Tryz.underlying29 rfl (by kernel_rfl)) rfl ?_
    refine ⟨pe, pf, T.take k ++ T.drop E, by rw [HEL'.out]; rfl, HEL.out.2.1, row_block HOWN6.out fun b hb => setRow_other _ _ _ _ (fun e => ?_), HEL.out.1, ?_⟩
    ·obtain ⟨cur, hcur⟩ := row_type (World.ownsRow.mono HOWN6.out (Nat.zero_le _)) hb
     rw [e, HY6.out] at hcur
     injection hcur with hcur
     injection hcur with _ hcur _
     exact absurd hcur (by decide)
    ·have h1 := HB6.out
     exact ⟨h1.os, h1.tape, h1.output, by rw [setRow_size]; exact h1.size, fun b hb => (setRow_other _ _ _ _ (by omega)).trans (h1.block b hb)⟩
   ·go_simp
    refine (HENDC.out w3.drew HB3D.out (by exact HB3D.out.size)).mono ?_
    rintro e4 w4 ⟨rfl, hb4⟩
    have hb4' : Below w3.heap.size w3 w4 := Below.trans (b := w3.drew) ⟨rfl, rfl, rfl, Nat.le_refl _, fun _ _ => rfl⟩ hb4
    have HB4 : Hid (Below W2.heap.size W2 w4) := HB3.out.trans (hb4'.mono HB3.out.size)
    have a4 := cell_row ((hAx.out w4 HB4.out).1) 0 _ rfl
    have b4 := cell_row ((hAx.out w4 HB4.out).1) 1 _ rfl
    obtain ⟨pe, pf, w5, hr5, HOWN5, HB5⟩ := HREST'.out w4 hb4'
    clear hb4 hb4'
    go_wp2_with fail
    refine hK.out _ _ (trivial) (fun hHeld => ?_)
    clear hK K
    try go_frame
    refine rdy 2 (fun K hK => ?_)
    go_simp
    refine hK.out _ _ (trivial) (fun hHeld => ?_)
    clear hK K
    try go_frame
    refine tkv 6 (h := ?_)
    refine rdy 7 (fun K hK => ?_)
    have c5 := cell_row (hAx.out w5 HB5.out).1 0 _ rfl
    have e5 := cell_row (hAx.out w5 HB5.out).1 1 _ rfl
    have f5 := free_row (hAx.out w5 HB5.out).1 0
    refine step_append_runI rfl (.tmp 12) (.tmp 18) 27 27 rfl (.slice pa k pc) (.slice (some ad) 0 0) (by simp [Act.eval]) (by simp [Act.eval]) hr5 ?_
    refine hK.out _ _ (trivial) (fun hHeld => ?_)
    clear hK K
    try go_frame
    refine tkv 8 (h := ?_)
    refine rdy 9 (fun K hK => ?_)
    go_simp
    clear c5 e5 f5 a4 b4
    have HB6 : Hid (Below w.heap.size w (w5.setCell ⟨w.heap.size, 0, none⟩ (.slice pe k pf))) := (HB2.out.trans (HB5.out.mono HB2.out.size)).setCell (Nat.le_refl _) _
    obtain ⟨w6, hw6⟩ : ∃ w6, Hid (w5.setCell ⟨w.heap.size, 0, none⟩ (.slice pe k pf) = w6) := ⟨_, rfl⟩
    rw [hw6.out] at HB6
    have hx6 : w6.heap[w.heap.size]? = some (.cells (treeV pe k pf next) 29 (0, 0)) := by rw [← hw6.out]; exact Lib.heap_setCell_same (i := 0) (hAx.out w5 HB5.out).1 _
    have HY6 : Hid (w6.heap[w.heap.size + 1]? = some (.cells zeroT 29 (0, 0))) := by
     show _ = _
     rw [← hw6.out, Below.heap_setCell _ _ _ _ (by show w.heap.size + 1 ≠ w.heap.size; omega)]
     exact (hAx.out w5 HB5.out).2
    have HOWN6 : Hid (RowsOwn w6 w.heap.size pe pf (T.take k ++ T.drop E)) := by
     show RowsOwn _ _ _ _ _
     rw [← hw6.out]
     exact row_block HOWN5.out fun b hb => Below.heap_setCell _ _ _ _ (fun e => by
      have e' : b = w.heap.size := e
      obtain ⟨cur, hcur⟩ := row_type (World.ownsRow.mono HOWN5.out (Nat.zero_le _)) hb
      rw [e', (hAx.out w5 HB5.out).1] at hcur
      injection hcur with hcur
      injection hcur with _ hcur _
      exact absurd hcur (by decide))
    have e0 := cell_row hx6 0 _ rfl
    have e1 := cell_row hx6 1 _ rfl
    clear hx6
    rw [hw6.out]
    refine hK.out _ _ (trivial) (fun hHeld => ?_)
    clear hK K
    try go_frame
    refine wpAnyH_done (by kernel_rfl) ?_ _
    go_wp2_with (refine wpList_store_row rfl 29 (.tmp 4) (.tmp 21) rfl (w.heap.size + 1) (treeV pe k pf next) rfl rfl 29 zeroT HY6.out (by kernel_rfl) rfl (treeV_one _ _ _ _) ?_)
    try simp only [Exit.inBlock, Exit.then]
    refine bodyPost_ret (results_cell_row Tryz.results88 _ _ (w.heap.size + 1) 29 (treeV pe k pf next) (0, 0) _ rfl (setRow_heap _ _ _ _ _ _ HY6.out) Tryz.underlying29 rfl (by kernel_rfl)) rfl ?_
    refine ⟨pe, pf, T.take k ++ T.drop E, by rw [HEL'.out]; rfl, HEL.out.2.1, row_block HOWN6.out fun b hb => setRow_other _ _ _ _ (fun e => ?_), HEL.out.1, ?_⟩
    ·obtain ⟨cur, hcur⟩ := row_type (World.ownsRow.mono HOWN6.out (Nat.zero_le _)) hb
     rw [e, HY6.out] at hcur
     injection hcur with hcur
     injection hcur with _ hcur _
     exact absurd hcur (by decide)
    ·have h1 := HB6.out
     exact ⟨h1.os, h1.tape, h1.output, by rw [setRow_size]; exact h1.size, fun b hb => (setRow_other _ _ _ _ (by omega)).trans (h1.block b hb)⟩
 ·have hck' : ¬ ((c : Int) = (E : Int)) := by omega
  have HREST' : Hid (∀ w4 : World, Below w3.heap.size w3 w4 → ∃ pe pf w5, (Builtin.append_ #[27, 27] 27 #[.slice pa k pc, .slice (some (ad.add (E * 6))) (n - E) (c - E)]).run Tryz.prog w4 = .ok (.slice pe (k + (n - E)) pf) w5 ∧
   Hid (RowsOwn w5 w.heap.size pe pf (T.take k ++ T.drop E)) ∧ Hid (Below W2.heap.size W2 w5)) := fun w4 hb4 => HREST.out w4 _ hb4 (.inr rfl)
  have HEL' : Hid ((T.take k ++ T.drop E).length = k + (n - E)) := HEL.out.2.2
  go_enter Tryz.func88, Tryz.ntmps88
  go_upto_region 3 with (at_builtin; refine wpList_append_runI _ rfl _ _ 27 rfl (.slice none 0 0) (.slice (some ad) k c) (by simp [Act.eval]) (by simp [Act.eval]) hr3 ?_)
  have HB3D : Hid (Below w.heap.size w w3.drew) := HB3W.out.trans ⟨rfl, rfl, rfl, Nat.le_refl _, fun _ _ => rfl⟩
  refine wp_region_held_drew (S := fun _ => True) (by kernel_rfl) trivial (fun hHeld => ?_)
  refine tkv 0 (h := tkv 1 (h := ?_))
  refine tkv 4 (h := ?_)
  refine wpAnyH_ready (rs := [2, 3]) (by kernel_rfl) (by simp) ?_
  refine AllReadyH.cons (o := ⟨_, _, _, _, _, _⟩) rfl (fun K hK => ?_) (AllReadyH.cons (o := ⟨_, _, _, _, _, _⟩) rfl (fun K hK => ?_) AllReadyH.nil)
  ·go_simp
   refine hK.out _ _ (trivial) (fun hHeld => ?_)
   clear hK K
   try go_frame
   refine rdy 3 (fun K hK => ?_)
   go_simp
   refine hK.out _ _ (trivial) (fun hHeld => ?_)
   clear hK K
   try go_frame
   refine rdy 5 (fun K hK => ?_)
   go_simp
   refine (HENDC.out w3.drew HB3D.out (by exact HB3D.out.size)).mono ?_
   rintro e4 w4 ⟨rfl, hb4⟩
   have hb4' : Below w3.heap.size w3 w4 := Below.trans (b := w3.drew) ⟨rfl, rfl, rfl, Nat.le_refl _, fun _ _ => rfl⟩ hb4
   have HB4 : Hid (Below W2.heap.size W2 w4) := HB3.out.trans (hb4'.mono HB3.out.size)
   have a4 := cell_row ((hAx.out w4 HB4.out).1) 0 _ rfl
   have b4 := cell_row ((hAx.out w4 HB4.out).1) 1 _ rfl
   obtain ⟨pe, pf, w5, hr5, HOWN5, HB5⟩ := HREST'.out w4 hb4'
   clear hb4 hb4'
   go_wp2_with fail
   refine hK.out _ _ (trivial) (fun hHeld => ?_)
   clear hK K
   try go_frame
   refine tkv 6 (h := ?_)
   refine rdy 7 (fun K hK => ?_)
   have c5 := cell_row (hAx.out w5 HB5.out).1 0 _ rfl
   have e5 := cell_row (hAx.out w5 HB5.out).1 1 _ rfl
   have f5 := free_row (hAx.out w5 HB5.out).1 0
   refine step_append_runI rfl (.tmp 12) (.tmp 18) 27 27 rfl (.slice pa k pc) (.slice (some (ad.add (E * 6))) (n - E) (c - E)) (by simp [Act.eval]) (by simp [Act.eval]) hr5 ?_
   refine hK.out _ _ (trivial) (fun hHeld => ?_)
   clear hK K
   try go_frame
   refine tkv 8 (h := ?_)
   refine rdy 9 (fun K hK => ?_)
   go_simp
   clear c5 e5 f5 a4 b4
   have HB6 : Hid (Below w.heap.size w (w5.setCell ⟨w.heap.size, 0, none⟩ (.slice pe (k + (n - E)) pf))) := (HB2.out.trans (HB5.out.mono HB2.out.size)).setCell (Nat.le_refl _) _
   obtain ⟨w6, hw6⟩ : ∃ w6, Hid (w5.setCell ⟨w.heap.size, 0, none⟩ (.slice pe (k + (n - E)) pf) = w6) := ⟨_, rfl⟩
   rw [hw6.out] at HB6
   have hx6 : w6.heap[w.heap.size]? = some (.cells (treeV pe (k + (n - E)) pf next) 29 (0, 0)) := by rw [← hw6.out]; exact Lib.heap_setCell_same (i := 0) (hAx.out w5 HB5.out).1 _
   have HY6 : Hid (w6.heap[w.heap.size + 1]? = some (.cells zeroT 29 (0, 0))) := by
    show _ = _
    rw [← hw6.out, Below.heap_setCell _ _ _ _ (by show w.heap.size + 1 ≠ w.heap.size; omega)]
    exact (hAx.out w5 HB5.out).2
   have HOWN6 : Hid (RowsOwn w6 w.heap.size pe pf (T.take k ++ T.drop E)) := by
    show RowsOwn _ _ _ _ _
    rw [← hw6.out]
    exact row_block HOWN5.out fun b hb => Below.heap_setCell _ _ _ _ (fun e => by
     have e' : b = w.heap.size := e
     obtain ⟨cur, hcur⟩ := row_type (World.ownsRow.mono HOWN5.out (Nat.zero_le _)) hb
     rw [e', (hAx.out w5 HB5.out).1] at hcur
     injection hcur with hcur
     injection hcur with _ hcur _
     exact absurd hcur (by decide))
   have e0 := cell_row hx6 0 _ rfl
   have e1 := cell_row hx6 1 _ rfl
   clear hx6
   rw [hw6.out]
   refine hK.out _ _ (trivial) (fun hHeld => ?_)
   clear hK K
   try go_frame
   refine wpAnyH_done (by kernel_rfl) ?_ _
   go_wp2_with (refine wpList_store_row rfl 29 (.tmp 4) (.tmp 21) rfl (w.heap.size + 1) (treeV pe (k + (n - E)) pf next) rfl rfl 29 zeroT HY6.out (by kernel_rfl) rfl (treeV_one _ _ _ _) ?_)
   try simp only [Exit.inBlock, Exit.then]
   refine bodyPost_ret (results_cell_row Tryz.results88 _ _ (w.heap.size + 1) 29 (treeV pe (k + (n - E)) pf next) (0, 0) _ rfl (setRow_heap _ _ _ _ _ _ HY6.out) Tryz.underlying29 rfl (by kernel_rfl)) rfl ?_
   refine ⟨pe, pf, T.take k ++ T.drop E, by rw [HEL'.out]; rfl, HEL.out.2.1, row_block HOWN6.out fun b hb => setRow_other _ _ _ _ (fun e => ?_), HEL.out.1, ?_⟩
   ·obtain ⟨cur, hcur⟩ := row_type (World.ownsRow.mono HOWN6.out (Nat.zero_le _)) hb
    rw [e, HY6.out] at hcur
    injection hcur with hcur
    injection hcur with _ hcur _
    exact absurd hcur (by decide)
   ·have h1 := HB6.out
    exact ⟨h1.os, h1.tape, h1.output, by rw [setRow_size]; exact h1.size, fun b hb => (setRow_other _ _ _ _ (by omega)).trans (h1.block b hb)⟩
  ·go_simp
   refine hK.out _ _ (trivial) (fun hHeld => ?_)
   clear hK K
   try go_frame
   refine wpAnyH_ready (rs := [2, 5]) (by kernel_rfl) (by simp) ?_
   refine AllReadyH.cons (o := ⟨_, _, _, _, _, _⟩) rfl (fun K hK => ?_) (AllReadyH.cons (o := ⟨_, _, _, _, _, _⟩) rfl (fun K hK => ?_) AllReadyH.nil)
   ·go_simp
    refine hK.out _ _ (trivial) (fun hHeld => ?_)
    clear hK K
    try go_frame
    refine rdy 5 (fun K hK => ?_)
    go_simp
    refine (HENDC.out w3.drew HB3D.out (by exact HB3D.out.size)).mono ?_
    rintro e4 w4 ⟨rfl, hb4⟩
    have hb4' : Below w3.heap.size w3 w4 := Below.trans (b := w3.drew) ⟨rfl, rfl, rfl, Nat.le_refl _, fun _ _ => rfl⟩ hb4
    have HB4 : Hid (Below W2.heap.size W2 w4) := HB3.out.trans (hb4'.mono HB3.out.size)
    have a4 := cell_row ((hAx.out w4 HB4.out).1) 0 _ rfl
    have b4 := cell_row ((hAx.out w4 HB4.out).1) 1 _ rfl
    obtain ⟨pe, pf, w5, hr5, HOWN5, HB5⟩ := HREST'.out w4 hb4'
    clear hb4 hb4'
    go_wp2_with fail
    refine hK.out _ _ (trivial) (fun hHeld => ?_)
    clear hK K
    try go_frame
    refine tkv 6 (h := ?_)
    refine rdy 7 (fun K hK => ?_)
    have c5 := cell_row (hAx.out w5 HB5.out).1 0 _ rfl
    have e5 := cell_row (hAx.out w5 HB5.out).1 1 _ rfl
    have f5 := free_row (hAx.out w5 HB5.out).1 0
    refine step_append_runI rfl (.tmp 12) (.tmp 18) 27 27 rfl (.slice pa k pc) (.slice (some (ad.add (E * 6))) (n - E) (c - E)) (by simp [Act.eval]) (by simp [Act.eval]) hr5 ?_
    refine hK.out _ _ (trivial) (fun hHeld => ?_)
    clear hK K
    try go_frame
    refine tkv 8 (h := ?_)
    refine rdy 9 (fun K hK => ?_)
    go_simp
    clear c5 e5 f5 a4 b4
    have HB6 : Hid (Below w.heap.size w (w5.setCell ⟨w.heap.size, 0, none⟩ (.slice pe (k + (n - E)) pf))) := (HB2.out.trans (HB5.out.mono HB2.out.size)).setCell (Nat.le_refl _) _
    obtain ⟨w6, hw6⟩ : ∃ w6, Hid (w5.setCell ⟨w.heap.size, 0, none⟩ (.slice pe (k + (n - E)) pf) = w6) := ⟨_, rfl⟩
    rw [hw6.out] at HB6
    have hx6 : w6.heap[w.heap.size]? = some (.cells (treeV pe (k + (n - E)) pf next) 29 (0, 0)) := by rw [← hw6.out]; exact Lib.heap_setCell_same (i := 0) (hAx.out w5 HB5.out).1 _
    have HY6 : Hid (w6.heap[w.heap.size + 1]? = some (.cells zeroT 29 (0, 0))) := by
     show _ = _
     rw [← hw6.out, Below.heap_setCell _ _ _ _ (by show w.heap.size + 1 ≠ w.heap.size; omega)]
     exact (hAx.out w5 HB5.out).2
    have HOWN6 : Hid (RowsOwn w6 w.heap.size pe pf (T.take k ++ T.drop E)) := by
     show RowsOwn _ _ _ _ _
     rw [← hw6.out]
     exact row_block HOWN5.out fun b hb => Below.heap_setCell _ _ _ _ (fun e => by
      have e' : b = w.heap.size := e
      obtain ⟨cur, hcur⟩ := row_type (World.ownsRow.mono HOWN5.out (Nat.zero_le _)) hb
      rw [e', (hAx.out w5 HB5.out).1] at hcur
      injection hcur with hcur
      injection hcur with _ hcur _
      exact absurd hcur (by decide))
    have e0 := cell_row hx6 0 _ rfl
    have e1 := cell_row hx6 1 _ rfl
    clear hx6
    rw [hw6.out]
    refine hK.out _ _ (trivial) (fun hHeld => ?_)
    clear hK K
    try go_frame
    refine wpAnyH_done (by kernel_rfl) ?_ _
    go_wp2_with (refine wpList_store_row rfl 29 (.tmp 4) (.tmp 21) rfl (w.heap.size + 1) (treeV pe (k + (n - E)) pf next) rfl rfl 29 zeroT HY6.out (by kernel_rfl) rfl (treeV_one _ _ _ _) ?_)
    try simp only [Exit.inBlock, Exit.then]
    refine bodyPost_ret (results_cell_row Tryz.results88 _ _ (w.heap.size + 1) 29 (treeV pe (k + (n - E)) pf next) (0, 0) _ rfl (setRow_heap _ _ _ _ _ _ HY6.out) Tryz.underlying29 rfl (by kernel_rfl)) rfl ?_
    refine ⟨pe, pf, T.take k ++ T.drop E, by rw [HEL'.out]; rfl, HEL.out.2.1, row_block HOWN6.out fun b hb => setRow_other _ _ _ _ (fun e => ?_), HEL.out.1, ?_⟩
    ·obtain ⟨cur, hcur⟩ := row_type (World.ownsRow.mono HOWN6.out (Nat.zero_le _)) hb
     rw [e, HY6.out] at hcur
     injection hcur with hcur
     injection hcur with _ hcur _
     exact absurd hcur (by decide)
    ·have h1 := HB6.out
     exact ⟨h1.os, h1.tape, h1.output, by rw [setRow_size]; exact h1.size, fun b hb => (setRow_other _ _ _ _ (by omega)).trans (h1.block b hb)⟩
   ·go_simp
    refine (HENDC.out w3.drew HB3D.out (by exact HB3D.out.size)).mono ?_
    rintro e4 w4 ⟨rfl, hb4⟩
    have hb4' : Below w3.heap.size w3 w4 := Below.trans (b := w3.drew) ⟨rfl, rfl, rfl, Nat.le_refl _, fun _ _ => rfl⟩ hb4
    have HB4 : Hid (Below W2.heap.size W2 w4) := HB3.out.trans (hb4'.mono HB3.out.size)
    have a4 := cell_row ((hAx.out w4 HB4.out).1) 0 _ rfl
    have b4 := cell_row ((hAx.out w4 HB4.out).1) 1 _ rfl
    obtain ⟨pe, pf, w5, hr5, HOWN5, HB5⟩ := HREST'.out w4 hb4'
    clear hb4 hb4'
    go_wp2_with fail
    refine hK.out _ _ (trivial) (fun hHeld => ?_)
    clear hK K
    try go_frame
    refine rdy 2 (fun K hK => ?_)
    go_simp
    refine hK.out _ _ (trivial) (fun hHeld => ?_)
    clear hK K
    try go_frame
    refine tkv 6 (h := ?_)
    refine rdy 7 (fun K hK => ?_)
    have c5 := cell_row (hAx.out w5 HB5.out).1 0 _ rfl
    have e5 := cell_row (hAx.out w5 HB5.out).1 1 _ rfl
    have f5 := free_row (hAx.out w5 HB5.out).1 0
    refine step_append_runI rfl (.tmp 12) (.tmp 18) 27 27 rfl (.slice pa k pc) (.slice (some (ad.add (E * 6))) (n - E) (c - E)) (by simp [Act.eval]) (by simp [Act.eval]) hr5 ?_
    refine hK.out _ _ (trivial) (fun hHeld => ?_)
    clear hK K
    try go_frame
    refine tkv 8 (h := ?_)
    refine rdy 9 (fun K hK => ?_)
    go_simp
    clear c5 e5 f5 a4 b4
    have HB6 : Hid (Below w.heap.size w (w5.setCell ⟨w.heap.size, 0, none⟩ (.slice pe (k + (n - E)) pf))) := (HB2.out.trans (HB5.out.mono HB2.out.size)).setCell (Nat.le_refl _) _
    obtain ⟨w6, hw6⟩ : ∃ w6, Hid (w5.setCell ⟨w.heap.size, 0, none⟩ (.slice pe (k + (n - E)) pf) = w6) := ⟨_, rfl⟩
    rw [hw6.out] at HB6
    have hx6 : w6.heap[w.heap.size]? = some (.cells (treeV pe (k + (n - E)) pf next) 29 (0, 0)) := by rw [← hw6.out]; exact Lib.heap_setCell_same (i := 0) (hAx.out w5 HB5.out).1 _
    have HY6 : Hid (w6.heap[w.heap.size + 1]? = some (.cells zeroT 29 (0, 0))) := by
     show _ = _
     rw [← hw6.out, Below.heap_setCell _ _ _ _ (by show w.heap.size + 1 ≠ w.heap.size; omega)]
     exact (hAx.out w5 HB5.out).2
    have HOWN6 : Hid (RowsOwn w6 w.heap.size pe pf (T.take k ++ T.drop E)) := by
     show RowsOwn _ _ _ _ _
     rw [← hw6.out]
     exact row_block HOWN5.out fun b hb => Below.heap_setCell _ _ _ _ (fun e => by
      have e' : b = w.heap.size := e
      obtain ⟨cur, hcur⟩ := row_type (World.ownsRow.mono HOWN5.out (Nat.zero_le _)) hb
      rw [e', (hAx.out w5 HB5.out).1] at hcur
      injection hcur with hcur
      injection hcur with _ hcur _
      exact absurd hcur (by decide))
    have e0 := cell_row hx6 0 _ rfl
    have e1 := cell_row hx6 1 _ rfl
    clear hx6
    rw [hw6.out]
    refine hK.out _ _ (trivial) (fun hHeld => ?_)
    clear hK K
    try go_frame
    refine wpAnyH_done (by kernel_rfl) ?_ _
    go_wp2_with (refine wpList_store_row rfl 29 (.tmp 4) (.tmp 21) rfl (w.heap.size + 1) (treeV pe (k + (n - E)) pf next) rfl rfl 29 zeroT HY6.out (by kernel_rfl) rfl (treeV_one _ _ _ _) ?_)
    try simp only [Exit.inBlock, Exit.then]
    refine bodyPost_ret (results_cell_row Tryz.results88 _ _ (w.heap.size + 1) 29 (treeV pe (k + (n - E)) pf next) (0, 0) _ rfl (setRow_heap _ _ _ _ _ _ HY6.out) Tryz.underlying29 rfl (by kernel_rfl)) rfl ?_
    refine ⟨pe, pf, T.take k ++ T.drop E, by rw [HEL'.out]; rfl, HEL.out.2.1, row_block HOWN6.out fun b hb => setRow_other _ _ _ _ (fun e => ?_), HEL.out.1, ?_⟩
    ·obtain ⟨cur, hcur⟩ := row_type (World.ownsRow.mono HOWN6.out (Nat.zero_le _)) hb
     rw [e, HY6.out] at hcur
     injection hcur with hcur
     injection hcur with _ hcur _
     exact absurd hcur (by decide)
    ·have h1 := HB6.out
     exact ⟨h1.os, h1.tape, h1.output, by rw [setRow_size]; exact h1.size, fun b hb => (setRow_other _ _ _ _ (by omega)).trans (h1.block b hb)⟩
end
section
open Go.RowKit
theorem dT (a b : Int) (h : a ≤ b := by omega) : decide (a ≤ b) = true := decide_eq_true h
theorem dF (a b : Int) (h : b < a := by omega) : decide (a ≤ b) = false := decide_eq_false (by omega)
theorem eF (a b : Int) (h : a ≠ b := by omega) : (a == b) = false := by simpa using h
theorem RStart_any (c : Int) (w : World) : Calls Tryz.prog 108 #[.int .i32 c] w (Ret w (.bool (startB c))) := by
 rcases Int.lt_or_le c 65 with k0 | k0
 ·have e95 := eF c 95
  have e8204 := eF c 8204
  have e8205 := eF c 8205
  have a65 := dF 65 c
  have b90 := dT c 90
  have a97 := dF 97 c
  have b122 := dT c 122
  have a192 := dF 192 c
  have b214 := dT c 214
  have a216 := dF 216 c
  have b246 := dT c 246
  have a248 := dF 248 c
  have b767 := dT c 767
  have a880 := dF 880 c
  have b893 := dT c 893
  have a895 := dF 895 c
  have b8191 := dT c 8191
  have a8304 := dF 8304 c
  have b8591 := dT c 8591
  have a11264 := dF 11264 c
  have b12271 := dT c 12271
  have a12289 := dF 12289 c
  have b55295 := dT c 55295
  have a63744 := dF 63744 c
  have b64975 := dT c 64975
  have a65008 := dF 65008 c
  have b65533 := dT c 65533
  have a65536 := dF 65536 c
  have b983039 := dT c 983039
  have hv : Hid (startB c = false) := by show _ = _; unfold startB; simp; omega
  clear k0
  go_enter Tryz.func108, Tryz.ntmps108
  go_wp2_with fail
  go_ret
  exact ⟨by rw [hv.out]; rfl, Below.refl _ _⟩
 rcases Int.lt_or_le c 91 with k1 | k1
 ·have e95 := eF c 95
  have e8204 := eF c 8204
  have e8205 := eF c 8205
  have a65 := dT 65 c
  have b90 := dT c 90
  have a97 := dF 97 c
  have b122 := dT c 122
  have a192 := dF 192 c
  have b214 := dT c 214
  have a216 := dF 216 c
  have b246 := dT c 246
  have a248 := dF 248 c
  have b767 := dT c 767
  have a880 := dF 880 c
  have b893 := dT c 893
  have a895 := dF 895 c
  have b8191 := dT c 8191
  have a8304 := dF 8304 c
  have b8591 := dT c 8591
  have a11264 := dF 11264 c
  have b12271 := dT c 12271
  have a12289 := dF 12289 c
  have b55295 := dT c 55295
  have a63744 := dF 63744 c
  have b64975 := dT c 64975
  have a65008 := dF 65008 c
  have b65533 := dT c 65533
  have a65536 := dF 65536 c
  have b983039 := dT c 983039
  have hv : Hid (startB c = true) := by show _ = _; unfold startB; simp; omega
  clear k0 k1
  go_enter Tryz.func108, Tryz.ntmps108
  go_wp2_with fail
  go_ret
  exact ⟨by rw [hv.out]; rfl, Below.refl _ _⟩
 rcases Int.lt_or_le c 95 with k2 | k2
 ·have e95 := eF c 95
  have e8204 := eF c 8204
  have e8205 := eF c 8205
  have a65 := dT 65 c
  have b90 := dF c 90
  have a97 := dF 97 c
  have b122 := dT c 122
  have a192 := dF 192 c
  have b214 := dT c 214
  have a216 := dF 216 c
  have b246 := dT c 246
  have a248 := dF 248 c
  have b767 := dT c 767
  have a880 := dF 880 c
  have b893 := dT c 893
  have a895 := dF 895 c
  have b8191 := dT c 8191
  have a8304 := dF 8304 c
  have b8591 := dT c 8591
  have a11264 := dF 11264 c
  have b12271 := dT c 12271
  have a12289 := dF 12289 c
  have b55295 := dT c 55295
  have a63744 := dF 63744 c
  have b64975 := dT c 64975
  have a65008 := dF 65008 c
  have b65533 := dT c 65533
  have a65536 := dF 65536 c
  have b983039 := dT c 983039
  have hv : Hid (startB c = false) := by show _ = _; unfold startB; simp; omega
  clear k0 k1 k2
  go_enter Tryz.func108, Tryz.ntmps108
  go_wp2_with fail
  go_ret
  exact ⟨by rw [hv.out]; rfl, Below.refl _ _⟩
 rcases Int.lt_or_le c 96 with k3 | k3
 ·have e95 : (c == 95) = true := by simp; omega
  have e8204 := eF c 8204
  have e8205 := eF c 8205
  have a65 := dT 65 c
  have b90 := dF c 90
  have a97 := dF 97 c
  have b122 := dT c 122
  have a192 := dF 192 c
  have b214 := dT c 214
  have a216 := dF 216 c
  have b246 := dT c 246
  have a248 := dF 248 c
  have b767 := dT c 767
  have a880 := dF 880 c
  have b893 := dT c 893
  have a895 := dF 895 c
  have b8191 := dT c 8191
  have a8304 := dF 8304 c
  have b8591 := dT c 8591
  have a11264 := dF 11264 c
  have b12271 := dT c 12271
  have a12289 := dF 12289 c
  have b55295 := dT c 55295
  have a63744 := dF 63744 c
  have b64975 := dT c 64975
  have a65008 := dF 65008 c
  have b65533 := dT c 65533
  have a65536 := dF 65536 c
  have b983039 := dT c 983039
  have hv : Hid (startB c = true) := by show _ = _; unfold startB; simp; omega
  clear k0 k1 k2 k3
  go_enter Tryz.func108, Tryz.ntmps108
  go_wp2_with fail
  go_ret
  exact ⟨by rw [hv.out]; rfl, Below.refl _ _⟩
 rcases Int.lt_or_le c 97 with k4 | k4
 ·have e95 := eF c 95
  have e8204 := eF c 8204
  have e8205 := eF c 8205
  have a65 := dT 65 c
  have b90 := dF c 90
  have a97 := dF 97 c
  have b122 := dT c 122
  have a192 := dF 192 c
  have b214 := dT c 214
  have a216 := dF 216 c
  have b246 := dT c 246
  have a248 := dF 248 c
  have b767 := dT c 767
  have a880 := dF 880 c
  have b893 := dT c 893
  have a895 := dF 895 c
  have b8191 := dT c 8191
  have a8304 := dF 8304 c
  have b8591 := dT c 8591
  have a11264 := dF 11264 c
  have b12271 := dT c 12271
  have a12289 := dF 12289 c
  have b55295 := dT c 55295
  have a63744 := dF 63744 c
  have b64975 := dT c 64975
  have a65008 := dF 65008 c
  have b65533 := dT c 65533
  have a65536 := dF 65536 c
  have b983039 := dT c 983039
  have hv : Hid (startB c = false) := by show _ = _; unfold startB; simp; omega
  clear k0 k1 k2 k3 k4
  go_enter Tryz.func108, Tryz.ntmps108
  go_wp2_with fail
  go_ret
  exact ⟨by rw [hv.out]; rfl, Below.refl _ _⟩
 rcases Int.lt_or_le c 123 with k5 | k5
 ·have e95 := eF c 95
  have e8204 := eF c 8204
  have e8205 := eF c 8205
  have a65 := dT 65 c
  have b90 := dF c 90
  have a97 := dT 97 c
  have b122 := dT c 122
  have a192 := dF 192 c
  have b214 := dT c 214
  have a216 := dF 216 c
  have b246 := dT c 246
  have a248 := dF 248 c
  have b767 := dT c 767
  have a880 := dF 880 c
  have b893 := dT c 893
  have a895 := dF 895 c
  have b8191 := dT c 8191
  have a8304 := dF 8304 c
  have b8591 := dT c 8591
  have a11264 := dF 11264 c
  have b12271 := dT c 12271
  have a12289 := dF 12289 c
  have b55295 := dT c 55295
  have a63744 := dF 63744 c
  have b64975 := dT c 64975
  have a65008 := dF 65008 c
  have b65533 := dT c 65533
  have a65536 := dF 65536 c
  have b983039 := dT c 983039
  have hv : Hid (startB c = true) := by show _ = _; unfold startB; simp; omega
  clear k0 k1 k2 k3 k4 k5
  go_enter Tryz.func108, Tryz.ntmps108
  go_wp2_with fail
  go_ret
  exact ⟨by rw [hv.out]; rfl, Below.refl _ _⟩
 rcases Int.lt_or_le c 192 with k6 | k6
 ·have e95 := eF c 95
  have e8204 := eF c 8204
  have e8205 := eF c 8205
  have a65 := dT 65 c
  have b90 := dF c 90
  have a97 := dT 97 c
  have b122 := dF c 122
  have a192 := dF 192 c
  have b214 := dT c 214
  have a216 := dF 216 c
  have b246 := dT c 246
  have a248 := dF 248 c
  have b767 := dT c 767
  have a880 := dF 880 c
  have b893 := dT c 893
  have a895 := dF 895 c
  have b8191 := dT c 8191
  have a8304 := dF 8304 c
  have b8591 := dT c 8591
  have a11264 := dF 11264 c
  have b12271 := dT c 12271
  have a12289 := dF 12289 c
  have b55295 := dT c 55295
  have a63744 := dF 63744 c
  have b64975 := dT c 64975
  have a65008 := dF 65008 c
  have b65533 := dT c 65533
  have a65536 := dF 65536 c
  have b983039 := dT c 983039
  have hv : Hid (startB c = false) := by show _ = _; unfold startB; simp; omega
  clear k0 k1 k2 k3 k4 k5 k6
  go_enter Tryz.func108, Tryz.ntmps108
  go_wp2_with fail
  go_ret
  exact ⟨by rw [hv.out]; rfl, Below.refl _ _⟩
 rcases Int.lt_or_le c 215 with k7 | k7
 ·have e95 := eF c 95
  have e8204 := eF c 8204
  have e8205 := eF c 8205
  have a65 := dT 65 c
  have b90 := dF c 90
  have a97 := dT 97 c
  have b122 := dF c 122
  have a192 := dT 192 c
  have b214 := dT c 214
  have a216 := dF 216 c
  have b246 := dT c 246
  have a248 := dF 248 c
  have b767 := dT c 767
  have a880 := dF 880 c
  have b893 := dT c 893
  have a895 := dF 895 c
  have b8191 := dT c 8191
  have a8304 := dF 8304 c
  have b8591 := dT c 8591
  have a11264 := dF 11264 c
  have b12271 := dT c 12271
  have a12289 := dF 12289 c
  have b55295 := dT c 55295
  have a63744 := dF 63744 c
  have b64975 := dT c 64975
  have a65008 := dF 65008 c
  have b65533 := dT c 65533
  have a65536 := dF 65536 c
  have b983039 := dT c 983039
  have hv : Hid (startB c = true) := by show _ = _; unfold startB; simp; omega
  clear k0 k1 k2 k3 k4 k5 k6 k7
  go_enter Tryz.func108, Tryz.ntmps108
  go_wp2_with fail
  go_ret
  exact ⟨by rw [hv.out]; rfl, Below.refl _ _⟩
 rcases Int.lt_or_le c 216 with k8 | k8
 ·have e95 := eF c 95
  have e8204 := eF c 8204
  have e8205 := eF c 8205
  have a65 := dT 65 c
  have b90 := dF c 90
  have a97 := dT 97 c
  have b122 := dF c 122
  have a192 := dT 192 c
  have b214 := dF c 214
  have a216 := dF 216 c
  have b246 := dT c 246
  have a248 := dF 248 c
  have b767 := dT c 767
  have a880 := dF 880 c
  have b893 := dT c 893
  have a895 := dF 895 c
  have b8191 := dT c 8191
  have a8304 := dF 8304 c
  have b8591 := dT c 8591
  have a11264 := dF 11264 c
  have b12271 := dT c 12271
  have a12289 := dF 12289 c
  have b55295 := dT c 55295
  have a63744 := dF 63744 c
  have b64975 := dT c 64975
  have a65008 := dF 65008 c
  have b65533 := dT c 65533
  have a65536 := dF 65536 c
  have b983039 := dT c 983039
  have hv : Hid (startB c = false) := by show _ = _; unfold startB; simp; omega
  clear k0 k1 k2 k3 k4 k5 k6 k7 k8
  go_enter Tryz.func108, Tryz.ntmps108
  go_wp2_with fail
  go_ret
  exact ⟨by rw [hv.out]; rfl, Below.refl _ _⟩
 rcases Int.lt_or_le c 247 with k9 | k9
 ·have e95 := eF c 95
  have e8204 := eF c 8204
  have e8205 := eF c 8205
  have a65 := dT 65 c
  have b90 := dF c 90
  have a97 := dT 97 c
  have b122 := dF c 122
  have a192 := dT 192 c
  have b214 := dF c 214
  have a216 := dT 216 c
  have b246 := dT c 246
  have a248 := dF 248 c
  have b767 := dT c 767
  have a880 := dF 880 c
  have b893 := dT c 893
  have a895 := dF 895 c
  have b8191 := dT c 8191
  have a8304 := dF 8304 c
  have b8591 := dT c 8591
  have a11264 := dF 11264 c
  have b12271 := dT c 12271
  have a12289 := dF 12289 c
  have b55295 := dT c 55295
  have a63744 := dF 63744 c
  have b64975 := dT c 64975
  have a65008 := dF 65008 c
  have b65533 := dT c 65533
  have a65536 := dF 65536 c
  have b983039 := dT c 983039
  have hv : Hid (startB c = true) := by show _ = _; unfold startB; simp; omega
  clear k0 k1 k2 k3 k4 k5 k6 k7 k8 k9
  go_enter Tryz.func108, Tryz.ntmps108
  go_wp2_with fail
  go_ret
  exact ⟨by rw [hv.out]; rfl, Below.refl _ _⟩
 rcases Int.lt_or_le c 248 with k10 | k10
 ·have e95 := eF c 95
  have e8204 := eF c 8204
  have e8205 := eF c 8205
  have a65 := dT 65 c
  have b90 := dF c 90
  have a97 := dT 97 c
  have b122 := dF c 122
  have a192 := dT 192 c
  have b214 := dF c 214
  have a216 := dT 216 c
  have b246 := dF c 246
  have a248 := dF 248 c
  have b767 := dT c 767
  have a880 := dF 880 c
  have b893 := dT c 893
  have a895 := dF 895 c
  have b8191 := dT c 8191
  have a8304 := dF 8304 c
  have b8591 := dT c 8591
  have a11264 := dF 11264 c
  have b12271 := dT c 12271
  have a12289 := dF 12289 c
  have b55295 := dT c 55295
  have a63744 := dF 63744 c
  have b64975 := dT c 64975
  have a65008 := dF 65008 c
  have b65533 := dT c 65533
  have a65536 := dF 65536 c
  have b983039 := dT c 983039
  have hv : Hid (startB c = false) := by show _ = _; unfold startB; simp; omega
  clear k0 k1 k2 k3 k4 k5 k6 k7 k8 k9 k10
  go_enter Tryz.func108, Tryz.ntmps108
  go_wp2_with fail
  go_ret
  exact ⟨by rw [hv.out]; rfl, Below.refl _ _⟩
 rcases Int.lt_or_le c 768 with k11 | k11
 ·have e95 := eF c 95
  have e8204 := eF c 8204
  have e8205 := eF c 8205
  have a65 := dT 65 c
  have b90 := dF c 90
  have a97 := dT 97 c
  have b122 := dF c 122
  have a192 := dT 192 c
  have b214 := dF c 214
  have a216 := dT 216 c
  have b246 := dF c 246
  have a248 := dT 248 c
  have b767 := dT c 767
  have a880 := dF 880 c
  have b893 := dT c 893
  have a895 := dF 895 c
  have b8191 := dT c 8191
  have a8304 := dF 8304 c
  have b8591 := dT c 8591
  have a11264 := dF 11264 c
  have b12271 := dT c 12271
  have a12289 := dF 12289 c
  have b55295 := dT c 55295
  have a63744 := dF 63744 c
  have b64975 := dT c 64975
  have a65008 := dF 65008 c
  have b65533 := dT c 65533
  have a65536 := dF 65536 c
  have b983039 := dT c 983039
  have hv : Hid (startB c = true) := by show _ = _; unfold startB; simp; omega
  clear k0 k1 k2 k3 k4 k5 k6 k7 k8 k9 k10 k11
  go_enter Tryz.func108, Tryz.ntmps108
  go_wp2_with fail
  go_ret
  exact ⟨by rw [hv.out]; rfl, Below.refl _ _⟩
 rcases Int.lt_or_le c 880 with k12 | k12
 ·have e95 := eF c 95
  have e8204 := eF c 8204
  have e8205 := eF c 8205
  have a65 := dT 65 c
  have b90 := dF c 90
  have a97 := dT 97 c
  have b122 := dF c 122
  have a192 := dT 192 c
  have b214 := dF c 214
  have a216 := dT 216 c
  have b246 := dF c 246
  have a248 := dT 248 c
  have b767 := dF c 767
  have a880 := dF 880 c
  have b893 := dT c 893
  have a895 := dF 895 c
  have b8191 := dT c 8191
  have a8304 := dF 8304 c
  have b8591 := dT c 8591
  have a11264 := dF 11264 c
  have b12271 := dT c 12271
  have a12289 := dF 12289 c
  have b55295 := dT c 55295
  have a63744 := dF 63744 c
  have b64975 := dT c 64975
  have a65008 := dF 65008 c
  have b65533 := dT c 65533
  have a65536 := dF 65536 c
  have b983039 := dT c 983039
  have hv : Hid (startB c = false) := by show _ = _; unfold startB; simp; omega
  clear k0 k1 k2 k3 k4 k5 k6 k7 k8 k9 k10 k11 k12
  go_enter Tryz.func108, Tryz.ntmps108
  go_wp2_with fail
  go_ret
  exact ⟨by rw [hv.out]; rfl, Below.refl _ _⟩
 rcases Int.lt_or_le c 894 with k13 | k13
 ·have e95 := eF c 95
  have e8204 := eF c 8204
  have e8205 := eF c 8205
  have a65 := dT 65 c
  have b90 := dF c 90
  have a97 := dT 97 c
  have b122 := dF c 122
  have a192 := dT 192 c
  have b214 := dF c 214
  have a216 := dT 216 c
  have b246 := dF c 246
  have a248 := dT 248 c
  have b767 := dF c 767
  have a880 := dT 880 c
  have b893 := dT c 893
  have a895 := dF 895 c
  have b8191 := dT c 8191
  have a8304 := dF 8304 c
  have b8591 := dT c 8591
  have a11264 := dF 11264 c
  have b12271 := dT c 12271
  have a12289 := dF 12289 c
  have b55295 := dT c 55295
  have a63744 := dF 63744 c
  have b64975 := dT c 64975
  have a65008 := dF 65008 c
  have b65533 := dT c 65533
  have a65536 := dF 65536 c
  have b983039 := dT c 983039
  have hv : Hid (startB c = true) := by show _ = _; unfold startB; simp; omega
  clear k0 k1 k2 k3 k4 k5 k6 k7 k8 k9 k10 k11 k12 k13
  go_enter Tryz.func108, Tryz.ntmps108
  go_wp2_with fail
  go_ret
  exact ⟨by rw [hv.out]; rfl, Below.refl _ _⟩
 rcases Int.lt_or_le c 895 with k14 | k14
 ·have e95 := eF c 95
  have e8204 := eF c 8204
  have e8205 := eF c 8205
  have a65 := dT 65 c
  have b90 := dF c 90
  have a97 := dT 97 c
  have b122 := dF c 122
  have a192 := dT 192 c
  have b214 := dF c 214
  have a216 := dT 216 c
  have b246 := dF c 246
  have a248 := dT 248 c
  have b767 := dF c 767
  have a880 := dT 880 c
  have b893 := dF c 893
  have a895 := dF 895 c
  have b8191 := dT c 8191
  have a8304 := dF 8304 c
  have b8591 := dT c 8591
  have a11264 := dF 11264 c
  have b12271 := dT c 12271
  have a12289 := dF 12289 c
  have b55295 := dT c 55295
  have a63744 := dF 63744 c
  have b64975 := dT c 64975
  have a65008 := dF 65008 c
  have b65533 := dT c 65533
  have a65536 := dF 65536 c
  have b983039 := dT c 983039
  have hv : Hid (startB c = false) := by show _ = _; unfold startB; simp; omega
  clear k0 k1 k2 k3 k4 k5 k6 k7 k8 k9 k10 k11 k12 k13 k14
  go_enter Tryz.func108, Tryz.ntmps108
  go_wp2_with fail
  go_ret
  exact ⟨by rw [hv.out]; rfl, Below.refl _ _⟩
 rcases Int.lt_or_le c 8192 with k15 | k15
 ·have e95 := eF c 95
  have e8204 := eF c 8204
  have e8205 := eF c 8205
  have a65 := dT 65 c
  have b90 := dF c 90
  have a97 := dT 97 c
  have b122 := dF c 122
  have a192 := dT 192 c
  have b214 := dF c 214
  have a216 := dT 216 c
  have b246 := dF c 246
  have a248 := dT 248 c
  have b767 := dF c 767
  have a880 := dT 880 c
  have b893 := dF c 893
  have a895 := dT 895 c
  have b8191 := dT c 8191
  have a8304 := dF 8304 c
  have b8591 := dT c 8591
  have a11264 := dF 11264 c
  have b12271 := dT c 12271
  have a12289 := dF 12289 c
  have b55295 := dT c 55295
  have a63744 := dF 63744 c
  have b64975 := dT c 64975
  have a65008 := dF 65008 c
  have b65533 := dT c 65533
  have a65536 := dF 65536 c
  have b983039 := dT c 983039
  have hv : Hid (startB c = true) := by show _ = _; unfold startB; simp; omega
  clear k0 k1 k2 k3 k4 k5 k6 k7 k8 k9 k10 k11 k12 k13 k14 k15
  go_enter Tryz.func108, Tryz.ntmps108
  go_wp2_with fail
  go_ret
  exact ⟨by rw [hv.out]; rfl, Below.refl _ _⟩
 rcases Int.lt_or_le c 8204 with k16 | k16
 ·have e95 := eF c 95
  have e8204 := eF c 8204
  have e8205 := eF c 8205
  have a65 := dT 65 c
  have b90 := dF c 90
  have a97 := dT 97 c
  have b122 := dF c 122
  have a192 := dT 192 c
  have b214 := dF c 214
  have a216 := dT 216 c
  have b246 := dF c 246
  have a248 := dT 248 c
  have b767 := dF c 767
  have a880 := dT 880 c
  have b893 := dF c 893
  have a895 := dT 895 c
  have b8191 := dF c 8191
  have a8304 := dF 8304 c
  have b8591 := dT c 8591
  have a11264 := dF 11264 c
  have b12271 := dT c 12271
  have a12289 := dF 12289 c
  have b55295 := dT c 55295
  have a63744 := dF 63744 c
  have b64975 := dT c 64975
  have a65008 := dF 65008 c
  have b65533 := dT c 65533
  have a65536 := dF 65536 c
  have b983039 := dT c 983039
  have hv : Hid (startB c = false) := by show _ = _; unfold startB; simp; omega
  clear k0 k1 k2 k3 k4 k5 k6 k7 k8 k9 k10 k11 k12 k13 k14 k15 k16
  go_enter Tryz.func108, Tryz.ntmps108
  go_wp2_with fail
  go_ret
  exact ⟨by rw [hv.out]; rfl, Below.refl _ _⟩
 rcases Int.lt_or_le c 8205 with k17 | k17
 ·have e95 := eF c 95
  have e8204 : (c == 8204) = true := by simp; omega
  have e8205 := eF c 8205
  have a65 := dT 65 c
  have b90 := dF c 90
  have a97 := dT 97 c
  have b122 := dF c 122
  have a192 := dT 192 c
  have b214 := dF c 214
  have a216 := dT 216 c
  have b246 := dF c 246
  have a248 := dT 248 c
  have b767 := dF c 767
  have a880 := dT 880 c
  have b893 := dF c 893
  have a895 := dT 895 c
  have b8191 := dF c 8191
  have a8304 := dF 8304 c
  have b8591 := dT c 8591
  have a11264 := dF 11264 c
  have b12271 := dT c 12271
  have a12289 := dF 12289 c
  have b55295 := dT c 55295
  have a63744 := dF 63744 c
  have b64975 := dT c 64975
  have a65008 := dF 65008 c
  have b65533 := dT c 65533
  have a65536 := dF 65536 c
  have b983039 := dT c 983039
  have hv : Hid (startB c = true) := by show _ = _; unfold startB; simp; omega
  clear k0 k1 k2 k3 k4 k5 k6 k7 k8 k9 k10 k11 k12 k13 k14 k15 k16 k17
  go_enter Tryz.func108, Tryz.ntmps108
  go_wp2_with fail
  go_ret
  exact ⟨by rw [hv.out]; rfl, Below.refl _ _⟩
 rcases Int.lt_or_le c 8206 with k18 | k18
 ·have e95 := eF c 95
  have e8204 := eF c 8204
  have e8205 : (c == 8205) = true := by simp; omega
  have a65 := dT 65 c
  have b90 := dF c 90
  have a97 := dT 97 c
  have b122 := dF c 122
  have a192 := dT 192 c
  have b214 := dF c 214
  have a216 := dT 216 c
  have b246 := dF c 246
  have a248 := dT 248 c
  have b767 := dF c 767
  have a880 := dT 880 c
  have b893 := dF c 893
  have a895 := dT 895 c
  have b8191 := dF c 8191
  have a8304 := dF 8304 c
  have b8591 := dT c 8591
  have a11264 := dF 11264 c
  have b12271 := dT c 12271
  have a12289 := dF 12289 c
  have b55295 := dT c 55295
  have a63744 := dF 63744 c
  have b64975 := dT c 64975
  have a65008 := dF 65008 c
  have b65533 := dT c 65533
  have a65536 := dF 65536 c
  have b983039 := dT c 983039
  have hv : Hid (startB c = true) := by show _ = _; unfold startB; simp; omega
  clear k0 k1 k2 k3 k4 k5 k6 k7 k8 k9 k10 k11 k12 k13 k14 k15 k16 k17 k18
  go_enter Tryz.func108, Tryz.ntmps108
  go_wp2_with fail
  go_ret
  exact ⟨by rw [hv.out]; rfl, Below.refl _ _⟩
 rcases Int.lt_or_le c 8304 with k19 | k19
 ·have e95 := eF c 95
  have e8204 := eF c 8204
  have e8205 := eF c 8205
  have a65 := dT 65 c
  have b90 := dF c 90
  have a97 := dT 97 c
  have b122 := dF c 122
  have a192 := dT 192 c
  have b214 := dF c 214
  have a216 := dT 216 c
  have b246 := dF c 246
  have a248 := dT 248 c
  have b767 := dF c 767
  have a880 := dT 880 c
  have b893 := dF c 893
  have a895 := dT 895 c
  have b8191 := dF c 8191
  have a8304 := dF 8304 c
  have b8591 := dT c 8591
  have a11264 := dF 11264 c
  have b12271 := dT c 12271
  have a12289 := dF 12289 c
  have b55295 := dT c 55295
  have a63744 := dF 63744 c
  have b64975 := dT c 64975
  have a65008 := dF 65008 c
  have b65533 := dT c 65533
  have a65536 := dF 65536 c
  have b983039 := dT c 983039
  have hv : Hid (startB c = false) := by show _ = _; unfold startB; simp; omega
  clear k0 k1 k2 k3 k4 k5 k6 k7 k8 k9 k10 k11 k12 k13 k14 k15 k16 k17 k18 k19
  go_enter Tryz.func108, Tryz.ntmps108
  go_wp2_with fail
  go_ret
  exact ⟨by rw [hv.out]; rfl, Below.refl _ _⟩
 rcases Int.lt_or_le c 8592 with k20 | k20
 ·have e95 := eF c 95
  have e8204 := eF c 8204
  have e8205 := eF c 8205
  have a65 := dT 65 c
  have b90 := dF c 90
  have a97 := dT 97 c
  have b122 := dF c 122
  have a192 := dT 192 c
  have b214 := dF c 214
  have a216 := dT 216 c
  have b246 := dF c 246
  have a248 := dT 248 c
  have b767 := dF c 767
  have a880 := dT 880 c
  have b893 := dF c 893
  have a895 := dT 895 c
  have b8191 := dF c 8191
  have a8304 := dT 8304 c
  have b8591 := dT c 8591
  have a11264 := dF 11264 c
  have b12271 := dT c 12271
  have a12289 := dF 12289 c
  have b55295 := dT c 55295
  have a63744 := dF 63744 c
  have b64975 := dT c 64975
  have a65008 := dF 65008 c
  have b65533 := dT c 65533
  have a65536 := dF 65536 c
  have b983039 := dT c 983039
  have hv : Hid (startB c = true) := by show _ = _; unfold startB; simp; omega
  clear k0 k1 k2 k3 k4 k5 k6 k7 k8 k9 k10 k11 k12 k13 k14 k15 k16 k17 k18 k19 k20
  go_enter Tryz.func108, Tryz.ntmps108
  go_wp2_with fail
  go_ret
  exact ⟨by rw [hv.out]; rfl, Below.refl _ _⟩
 rcases Int.lt_or_le c 11264 with k21 | k21
 ·have e95 := eF c 95
  have e8204 := eF c 8204
  have e8205 := eF c 8205
  have a65 := dT 65 c
  have b90 := dF c 90
  have a97 := dT 97 c
  have b122 := dF c 122
  have a192 := dT 192 c
  have b214 := dF c 214
  have a216 := dT 216 c
  have b246 := dF c 246
  have a248 := dT 248 c
  have b767 := dF c 767
  have a880 := dT 880 c
  have b893 := dF c 893
  have a895 := dT 895 c
  have b8191 := dF c 8191
  have a8304 := dT 8304 c
  have b8591 := dF c 8591
  have a11264 := dF 11264 c
  have b12271 := dT c 12271
  have a12289 := dF 12289 c
  have b55295 := dT c 55295
  have a63744 := dF 63744 c
  have b64975 := dT c 64975
  have a65008 := dF 65008 c
  have b65533 := dT c 65533
  have a65536 := dF 65536 c
  have b983039 := dT c 983039
  have hv : Hid (startB c = false) := by show _ = _; unfold startB; simp; omega
  clear k0 k1 k2 k3 k4 k5 k6 k7 k8 k9 k10 k11 k12 k13 k14 k15 k16 k17 k18 k19 k20 k21
  go_enter Tryz.func108, Tryz.ntmps108
  go_wp2_with fail
  go_ret
  exact ⟨by rw [hv.out]; rfl, Below.refl _ _⟩
 rcases Int.lt_or_le c 12272 with k22 | k22
 ·have e95 := eF c 95
  have e8204 := eF c 8204
  have e8205 := eF c 8205
  have a65 := dT 65 c
  have b90 := dF c 90
  have a97 := dT 97 c
  have b122 := dF c 122
  have a192 := dT 192 c
  have b214 := dF c 214
  have a216 := dT 216 c
  have b246 := dF c 246
  have a248 := dT 248 c
  have b767 := dF c 767
  have a880 := dT 880 c
  have b893 := dF c 893
  have a895 := dT 895 c
  have b8191 := dF c 8191
  have a8304 := dT 8304 c
  have b8591 := dF c 8591
  have a11264 := dT 11264 c
  have b12271 := dT c 12271
  have a12289 := dF 12289 c
  have b55295 := dT c 55295
  have a63744 := dF 63744 c
  have b64975 := dT c 64975
  have a65008 := dF 65008 c
  have b65533 := dT c 65533
  have a65536 := dF 65536 c
  have b983039 := dT c 983039
  have hv : Hid (startB c = true) := by show _ = _; unfold startB; simp; omega
  clear k0 k1 k2 k3 k4 k5 k6 k7 k8 k9 k10 k11 k12 k13 k14 k15 k16 k17 k18 k19 k20 k21 k22
  go_enter Tryz.func108, Tryz.ntmps108
  go_wp2_with fail
  go_ret
  exact ⟨by rw [hv.out]; rfl, Below.refl _ _⟩
 rcases Int.lt_or_le c 12289 with k23 | k23
 ·have e95 := eF c 95
  have e8204 := eF c 8204
  have e8205 := eF c 8205
  have a65 := dT 65 c
  have b90 := dF c 90
  have a97 := dT 97 c
  have b122 := dF c 122
  have a192 := dT 192 c
  have b214 := dF c 214
  have a216 := dT 216 c
  have b246 := dF c 246
  have a248 := dT 248 c
  have b767 := dF c 767
  have a880 := dT 880 c
  have b893 := dF c 893
  have a895 := dT 895 c
  have b8191 := dF c 8191
  have a8304 := dT 8304 c
  have b8591 := dF c 8591
  have a11264 := dT 11264 c
  have b12271 := dF c 12271
  have a12289 := dF 12289 c
  have b55295 := dT c 55295
  have a63744 := dF 63744 c
  have b64975 := dT c 64975
  have a65008 := dF 65008 c
  have b65533 := dT c 65533
  have a65536 := dF 65536 c
  have b983039 := dT c 983039
  have hv : Hid (startB c = false) := by show _ = _; unfold startB; simp; omega
  clear k0 k1 k2 k3 k4 k5 k6 k7 k8 k9 k10 k11 k12 k13 k14 k15 k16 k17 k18 k19 k20 k21 k22 k23
  go_enter Tryz.func108, Tryz.ntmps108
  go_wp2_with fail
  go_ret
  exact ⟨by rw [hv.out]; rfl, Below.refl _ _⟩
 rcases Int.lt_or_le c 55296 with k24 | k24
 ·have e95 := eF c 95
  have e8204 := eF c 8204
  have e8205 := eF c 8205
  have a65 := dT 65 c
  have b90 := dF c 90
  have a97 := dT 97 c
  have b122 := dF c 122
  have a192 := dT 192 c
  have b214 := dF c 214
  have a216 := dT 216 c
  have b246 := dF c 246
  have a248 := dT 248 c
  have b767 := dF c 767
  have a880 := dT 880 c
  have b893 := dF c 893
  have a895 := dT 895 c
  have b8191 := dF c 8191
  have a8304 := dT 8304 c
  have b8591 := dF c 8591
  have a11264 := dT 11264 c
  have b12271 := dF c 12271
  have a12289 := dT 12289 c
  have b55295 := dT c 55295
  have a63744 := dF 63744 c
  have b64975 := dT c 64975
  have a65008 := dF 65008 c
  have b65533 := dT c 65533
  have a65536 := dF 65536 c
  have b983039 := dT c 983039
  have hv : Hid (startB c = true) := by show _ = _; unfold startB; simp; omega
  clear k0 k1 k2 k3 k4 k5 k6 k7 k8 k9 k10 k11 k12 k13 k14 k15 k16 k17 k18 k19 k20 k21 k22 k23 k24
  go_enter Tryz.func108, Tryz.ntmps108
  go_wp2_with fail
  go_ret
  exact ⟨by rw [hv.out]; rfl, Below.refl _ _⟩
 rcases Int.lt_or_le c 63744 with k25 | k25
 ·have e95 := eF c 95
  have e8204 := eF c 8204
  have e8205 := eF c 8205
  have a65 := dT 65 c
  have b90 := dF c 90
  have a97 := dT 97 c
  have b122 := dF c 122
  have a192 := dT 192 c
  have b214 := dF c 214
  have a216 := dT 216 c
  have b246 := dF c 246
  have a248 := dT 248 c
  have b767 := dF c 767
  have a880 := dT 880 c
  have b893 := dF c 893
  have a895 := dT 895 c
  have b8191 := dF c 8191
  have a8304 := dT 8304 c
  have b8591 := dF c 8591
  have a11264 := dT 11264 c
  have b12271 := dF c 12271
  have a12289 := dT 12289 c
  have b55295 := dF c 55295
  have a63744 := dF 63744 c
  have b64975 := dT c 64975
  have a65008 := dF 65008 c
  have b65533 := dT c 65533
  have a65536 := dF 65536 c
  have b983039 := dT c 983039
  have hv : Hid (startB c = false) := by show _ = _; unfold startB; simp; omega
  clear k0 k1 k2 k3 k4 k5 k6 k7 k8 k9 k10 k11 k12 k13 k14 k15 k16 k17 k18 k19 k20 k21 k22 k23 k24 k25
  go_enter Tryz.func108, Tryz.ntmps108
  go_wp2_with fail
  go_ret
  exact ⟨by rw [hv.out]; rfl, Below.refl _ _⟩
 rcases Int.lt_or_le c 64976 with k26 | k26
 ·have e95 := eF c 95
  have e8204 := eF c 8204
  have e8205 := eF c 8205
  have a65 := dT 65 c
  have b90 := dF c 90
  have a97 := dT 97 c
  have b122 := dF c 122
  have a192 := dT 192 c
  have b214 := dF c 214
  have a216 := dT 216 c
  have b246 := dF c 246
  have a248 := dT 248 c
  have b767 := dF c 767
  have a880 := dT 880 c
  have b893 := dF c 893
  have a895 := dT 895 c
  have b8191 := dF c 8191
  have a8304 := dT 8304 c
  have b8591 := dF c 8591
  have a11264 := dT 11264 c
  have b12271 := dF c 12271
  have a12289 := dT 12289 c
  have b55295 := dF c 55295
  have a63744 := dT 63744 c
  have b64975 := dT c 64975
  have a65008 := dF 65008 c
  have b65533 := dT c 65533
  have a65536 := dF 65536 c
  have b983039 := dT c 983039
  have hv : Hid (startB c = true) := by show _ = _; unfold startB; simp; omega
  clear k0 k1 k2 k3 k4 k5 k6 k7 k8 k9 k10 k11 k12 k13 k14 k15 k16 k17 k18 k19 k20 k21 k22 k23 k24 k25 k26
  go_enter Tryz.func108, Tryz.ntmps108
  go_wp2_with fail
  go_ret
  exact ⟨by rw [hv.out]; rfl, Below.refl _ _⟩
 rcases Int.lt_or_le c 65008 with k27 | k27
 ·have e95 := eF c 95
  have e8204 := eF c 8204
  have e8205 := eF c 8205
  have a65 := dT 65 c
  have b90 := dF c 90
  have a97 := dT 97 c
  have b122 := dF c 122
  have a192 := dT 192 c
  have b214 := dF c 214
  have a216 := dT 216 c
  have b246 := dF c 246
  have a248 := dT 248 c
  have b767 := dF c 767
  have a880 := dT 880 c
  have b893 := dF c 893
  have a895 := dT 895 c
  have b8191 := dF c 8191
  have a8304 := dT 8304 c
  have b8591 := dF c 8591
  have a11264 := dT 11264 c
  have b12271 := dF c 12271
  have a12289 := dT 12289 c
  have b55295 := dF c 55295
  have a63744 := dT 63744 c
  have b64975 := dF c 64975
  have a65008 := dF 65008 c
  have b65533 := dT c 65533
  have a65536 := dF 65536 c
  have b983039 := dT c 983039
  have hv : Hid (startB c = false) := by show _ = _; unfold startB; simp; omega
  clear k0 k1 k2 k3 k4 k5 k6 k7 k8 k9 k10 k11 k12 k13 k14 k15 k16 k17 k18 k19 k20 k21 k22 k23 k24 k25 k26 k27
  go_enter Tryz.func108, Tryz.ntmps108
  go_wp2_with fail
  go_ret
  exact ⟨by rw [hv.out]; rfl, Below.refl _ _⟩
 rcases Int.lt_or_le c 65534 with k28 | k28
 ·have e95 := eF c 95
  have e8204 := eF c 8204
  have e8205 := eF c 8205
  have a65 := dT 65 c
  have b90 := dF c 90
  have a97 := dT 97 c
  have b122 := dF c 122
  have a192 := dT 192 c
  have b214 := dF c 214
  have a216 := dT 216 c
  have b246 := dF c 246
  have a248 := dT 248 c
  have b767 := dF c 767
  have a880 := dT 880 c
  have b893 := dF c 893
  have a895 := dT 895 c
  have b8191 := dF c 8191
  have a8304 := dT 8304 c
  have b8591 := dF c 8591
  have a11264 := dT 11264 c
  have b12271 := dF c 12271
  have a12289 := dT 12289 c
  have b55295 := dF c 55295
  have a63744 := dT 63744 c
  have b64975 := dF c 64975
  have a65008 := dT 65008 c
  have b65533 := dT c 65533
  have a65536 := dF 65536 c
  have b983039 := dT c 983039
  have hv : Hid (startB c = true) := by show _ = _; unfold startB; simp; omega
  clear k0 k1 k2 k3 k4 k5 k6 k7 k8 k9 k10 k11 k12 k13 k14 k15 k16 k17 k18 k19 k20 k21 k22 k23 k24 k25 k26 k27 k28
  go_enter Tryz.func108, Tryz.ntmps108
  go_wp2_with fail
  go_ret
  exact ⟨by rw [hv.out]; rfl, Below.refl _ _⟩
 rcases Int.lt_or_le c 65536 with k29 | k29
 ·have e95 := eF c 95
  have e8204 := eF c 8204
  have e8205 := eF c 8205
  have a65 := dT 65 c
  have b90 := dF c 90
  have a97 := dT 97 c
  have b122 := dF c 122
  have a192 := dT 192 c
  have b214 := dF c 214
  have a216 := dT 216 c
  have b246 := dF c 246
  have a248 := dT 248 c
  have b767 := dF c 767
  have a880 := dT 880 c
  have b893 := dF c 893
  have a895 := dT 895 c
  have b8191 := dF c 8191
  have a8304 := dT 8304 c
  have b8591 := dF c 8591
  have a11264 := dT 11264 c
  have b12271 := dF c 12271
  have a12289 := dT 12289 c
  have b55295 := dF c 55295
  have a63744 := dT 63744 c
  have b64975 := dF c 64975
  have a65008 := dT 65008 c
  have b65533 := dF c 65533
  have a65536 := dF 65536 c
  have b983039 := dT c 983039
  have hv : Hid (startB c = false) := by show _ = _; unfold startB; simp; omega
  clear k0 k1 k2 k3 k4 k5 k6 k7 k8 k9 k10 k11 k12 k13 k14 k15 k16 k17 k18 k19 k20 k21 k22 k23 k24 k25 k26 k27 k28 k29
  go_enter Tryz.func108, Tryz.ntmps108
  go_wp2_with fail
  go_ret
  exact ⟨by rw [hv.out]; rfl, Below.refl _ _⟩
 rcases Int.lt_or_le c 983040 with k30 | k30
 ·have e95 := eF c 95
  have e8204 := eF c 8204
  have e8205 := eF c 8205
  have a65 := dT 65 c
  have b90 := dF c 90
  have a97 := dT 97 c
  have b122 := dF c 122
  have a192 := dT 192 c
  have b214 := dF c 214
  have a216 := dT 216 c
  have b246 := dF c 246
  have a248 := dT 248 c
  have b767 := dF c 767
  have a880 := dT 880 c
  have b893 := dF c 893
  have a895 := dT 895 c
  have b8191 := dF c 8191
  have a8304 := dT 8304 c
  have b8591 := dF c 8591
  have a11264 := dT 11264 c
  have b12271 := dF c 12271
  have a12289 := dT 12289 c
  have b55295 := dF c 55295
  have a63744 := dT 63744 c
  have b64975 := dF c 64975
  have a65008 := dT 65008 c
  have b65533 := dF c 65533
  have a65536 := dT 65536 c
  have b983039 := dT c 983039
  have hv : Hid (startB c = true) := by show _ = _; unfold startB; simp; omega
  clear k0 k1 k2 k3 k4 k5 k6 k7 k8 k9 k10 k11 k12 k13 k14 k15 k16 k17 k18 k19 k20 k21 k22 k23 k24 k25 k26 k27 k28 k29 k30
  go_enter Tryz.func108, Tryz.ntmps108
  go_wp2_with fail
  go_ret
  exact ⟨by rw [hv.out]; rfl, Below.refl _ _⟩
 have e95 := eF c 95
 have e8204 := eF c 8204
 have e8205 := eF c 8205
 have a65 := dT 65 c
 have b90 := dF c 90
 have a97 := dT 97 c
 have b122 := dF c 122
 have a192 := dT 192 c
 have b214 := dF c 214
 have a216 := dT 216 c
 have b246 := dF c 246
 have a248 := dT 248 c
 have b767 := dF c 767
 have a880 := dT 880 c
 have b893 := dF c 893
 have a895 := dT 895 c
 have b8191 := dF c 8191
 have a8304 := dT 8304 c
 have b8591 := dF c 8591
 have a11264 := dT 11264 c
 have b12271 := dF c 12271
 have a12289 := dT 12289 c
 have b55295 := dF c 55295
 have a63744 := dT 63744 c
 have b64975 := dF c 64975
 have a65008 := dT 65008 c
 have b65533 := dF c 65533
 have a65536 := dT 65536 c
 have b983039 := dF c 983039
 have hv : Hid (startB c = false) := by show _ = _; unfold startB; simp; omega
 clear k0 k1 k2 k3 k4 k5 k6 k7 k8 k9 k10 k11 k12 k13 k14 k15 k16 k17 k18 k19 k20 k21 k22 k23 k24 k25 k26 k27 k28 k29 k30
 go_enter Tryz.func108, Tryz.ntmps108
 go_wp2_with fail
 go_ret
 exact ⟨by rw [hv.out]; rfl, Below.refl _ _⟩
theorem RStart_as (c : Int) (w : World) (r : Bool) (h : Hid (startB c = r)) : Calls Tryz.prog 108 #[.int .i32 c] w (Ret w (.bool r)) := by
 rw [← h.out]; exact RStart_any c w
theorem RPart_any (c : Int) (w : World) : Calls Tryz.prog 109 #[.int .i32 c] w (Ret w (.bool (partB c))) := by
 obtain ⟨b, hb⟩ : ∃ b, Hid (startB c = b) := ⟨_, rfl⟩
 cases b with
 | true =>
  have hv : Hid (partB c = true) := by show _ = _; unfold partB; rw [hb.out]; rfl
  go_enter Tryz.func109, Tryz.ntmps109
  go_wp2_with fail
  refine (RStart_as c _ _ hb).mono ?_; rintro e w2 ⟨rfl, hb2⟩
  go_wp2_with fail
  go_ret
  exact ⟨by rw [hv.out]; rfl, hb2⟩
 | false =>
  rcases Int.lt_or_le c 45 with k0 | k0
  ·have e45 := eF c 45
   have e46 := eF c 46
   have e183 := eF c 183
   have e8255 := eF c 8255
   have e8256 := eF c 8256
   have a48 := dF 48 c
   have b57 := dT c 57
   have a768 := dF 768 c
   have b879 := dT c 879
   have hv : Hid (partB c = startB c) := by show _ = _; unfold partB; rw [Bool.or_eq_left_iff_imp]; simp; omega
   clear k0
   go_enter Tryz.func109, Tryz.ntmps109
   go_wp2_with fail
   refine (RStart_as c _ _ hb).mono ?_; rintro e w2 ⟨rfl, hb2⟩
   go_wp2_with fail
   go_ret
   exact ⟨by rw [hv.out]; first | rfl | (rw [hb.out]; rfl), hb2⟩
  rcases Int.lt_or_le c 46 with k1 | k1
  ·have e45 : (c == 45) = true := by simp; omega
   have e46 := eF c 46
   have e183 := eF c 183
   have e8255 := eF c 8255
   have e8256 := eF c 8256
   have a48 := dF 48 c
   have b57 := dT c 57
   have a768 := dF 768 c
   have b879 := dT c 879
   have hv : Hid (partB c = true) := by show _ = _; unfold partB; simp; right; omega
   clear k0 k1
   go_enter Tryz.func109, Tryz.ntmps109
   go_wp2_with fail
   refine (RStart_as c _ _ hb).mono ?_; rintro e w2 ⟨rfl, hb2⟩
   go_wp2_with fail
   go_ret
   exact ⟨by rw [hv.out]; first | rfl | (rw [hb.out]; rfl), hb2⟩
  rcases Int.lt_or_le c 47 with k2 | k2
  ·have e45 := eF c 45
   have e46 : (c == 46) = true := by simp; omega
   have e183 := eF c 183
   have e8255 := eF c 8255
   have e8256 := eF c 8256
   have a48 := dF 48 c
   have b57 := dT c 57
   have a768 := dF 768 c
   have b879 := dT c 879
   have hv : Hid (partB c = true) := by show _ = _; unfold partB; simp; right; omega
   clear k0 k1 k2
   go_enter Tryz.func109, Tryz.ntmps109
   go_wp2_with fail
   refine (RStart_as c _ _ hb).mono ?_; rintro e w2 ⟨rfl, hb2⟩
   go_wp2_with fail
   go_ret
   exact ⟨by rw [hv.out]; first | rfl | (rw [hb.out]; rfl), hb2⟩
  rcases Int.lt_or_le c 48 with k3 | k3
  ·have e45 := eF c 45
   have e46 := eF c 46
   have e183 := eF c 183
   have e8255 := eF c 8255
   have e8256 := eF c 8256
   have a48 := dF 48 c
   have b57 := dT c 57
   have a768 := dF 768 c
   have b879 := dT c 879
   have hv : Hid (partB c = startB c) := by show _ = _; unfold partB; rw [Bool.or_eq_left_iff_imp]; simp; omega
   clear k0 k1 k2 k3
   go_enter Tryz.func109, Tryz.ntmps109
   go_wp2_with fail
   refine (RStart_as c _ _ hb).mono ?_; rintro e w2 ⟨rfl, hb2⟩
   go_wp2_with fail
   go_ret
   exact ⟨by rw [hv.out]; first | rfl | (rw [hb.out]; rfl), hb2⟩
  rcases Int.lt_or_le c 58 with k4 | k4
  ·have e45 := eF c 45
   have e46 := eF c 46
   have e183 := eF c 183
   have e8255 := eF c 8255
   have e8256 := eF c 8256
   have a48 := dT 48 c
   have b57 := dT c 57
   have a768 := dF 768 c
   have b879 := dT c 879
   have hv : Hid (partB c = true) := by show _ = _; unfold partB; simp; right; omega
   clear k0 k1 k2 k3 k4
   go_enter Tryz.func109, Tryz.ntmps109
   go_wp2_with fail
   refine (RStart_as c _ _ hb).mono ?_; rintro e w2 ⟨rfl, hb2⟩
   go_wp2_with fail
   go_ret
   exact ⟨by rw [hv.out]; first | rfl | (rw [hb.out]; rfl), hb2⟩
  rcases Int.lt_or_le c 183 with k5 | k5
  ·have e45 := eF c 45
   have e46 := eF c 46
   have e183 := eF c 183
   have e8255 := eF c 8255
   have e8256 := eF c 8256
   have a48 := dT 48 c
   have b57 := dF c 57
   have a768 := dF 768 c
   have b879 := dT c 879
   have hv : Hid (partB c = startB c) := by show _ = _; unfold partB; rw [Bool.or_eq_left_iff_imp]; simp; omega
   clear k0 k1 k2 k3 k4 k5
   go_enter Tryz.func109, Tryz.ntmps109
   go_wp2_with fail
   refine (RStart_as c _ _ hb).mono ?_; rintro e w2 ⟨rfl, hb2⟩
   go_wp2_with fail
   go_ret
   exact ⟨by rw [hv.out]; first | rfl | (rw [hb.out]; rfl), hb2⟩
  rcases Int.lt_or_le c 184 with k6 | k6
  ·have e45 := eF c 45
   have e46 := eF c 46
   have e183 : (c == 183) = true := by simp; omega
   have e8255 := eF c 8255
   have e8256 := eF c 8256
   have a48 := dT 48 c
   have b57 := dF c 57
   have a768 := dF 768 c
   have b879 := dT c 879
   have hv : Hid (partB c = true) := by show _ = _; unfold partB; simp; right; omega
   clear k0 k1 k2 k3 k4 k5 k6
   go_enter Tryz.func109, Tryz.ntmps109
   go_wp2_with fail
   refine (RStart_as c _ _ hb).mono ?_; rintro e w2 ⟨rfl, hb2⟩
   go_wp2_with fail
   go_ret
   exact ⟨by rw [hv.out]; first | rfl | (rw [hb.out]; rfl), hb2⟩
  rcases Int.lt_or_le c 768 with k7 | k7
  ·have e45 := eF c 45
   have e46 := eF c 46
   have e183 := eF c 183
   have e8255 := eF c 8255
   have e8256 := eF c 8256
   have a48 := dT 48 c
   have b57 := dF c 57
   have a768 := dF 768 c
   have b879 := dT c 879
   have hv : Hid (partB c = startB c) := by show _ = _; unfold partB; rw [Bool.or_eq_left_iff_imp]; simp; omega
   clear k0 k1 k2 k3 k4 k5 k6 k7
   go_enter Tryz.func109, Tryz.ntmps109
   go_wp2_with fail
   refine (RStart_as c _ _ hb).mono ?_; rintro e w2 ⟨rfl, hb2⟩
   go_wp2_with fail
   go_ret
   exact ⟨by rw [hv.out]; first | rfl | (rw [hb.out]; rfl), hb2⟩
  rcases Int.lt_or_le c 880 with k8 | k8
  ·have e45 := eF c 45
   have e46 := eF c 46
   have e183 := eF c 183
   have e8255 := eF c 8255
   have e8256 := eF c 8256
   have a48 := dT 48 c
   have b57 := dF c 57
   have a768 := dT 768 c
   have b879 := dT c 879
   have hv : Hid (partB c = true) := by show _ = _; unfold partB; simp; right; omega
   clear k0 k1 k2 k3 k4 k5 k6 k7 k8
   go_enter Tryz.func109, Tryz.ntmps109
   go_wp2_with fail
   refine (RStart_as c _ _ hb).mono ?_; rintro e w2 ⟨rfl, hb2⟩
   go_wp2_with fail
   go_ret
   exact ⟨by rw [hv.out]; first | rfl | (rw [hb.out]; rfl), hb2⟩
  rcases Int.lt_or_le c 8255 with k9 | k9
  ·have e45 := eF c 45
   have e46 := eF c 46
   have e183 := eF c 183
   have e8255 := eF c 8255
   have e8256 := eF c 8256
   have a48 := dT 48 c
   have b57 := dF c 57
   have a768 := dT 768 c
   have b879 := dF c 879
   have hv : Hid (partB c = startB c) := by show _ = _; unfold partB; rw [Bool.or_eq_left_iff_imp]; simp; omega
   clear k0 k1 k2 k3 k4 k5 k6 k7 k8 k9
   go_enter Tryz.func109, Tryz.ntmps109
   go_wp2_with fail
   refine (RStart_as c _ _ hb).mono ?_; rintro e w2 ⟨rfl, hb2⟩
   go_wp2_with fail
   go_ret
   exact ⟨by rw [hv.out]; first | rfl | (rw [hb.out]; rfl), hb2⟩
  rcases Int.lt_or_le c 8256 with k10 | k10
  ·have e45 := eF c 45
   have e46 := eF c 46
   have e183 := eF c 183
   have e8255 : (c == 8255) = true := by simp; omega
   have e8256 := eF c 8256
   have a48 := dT 48 c
   have b57 := dF c 57
   have a768 := dT 768 c
   have b879 := dF c 879
   have hv : Hid (partB c = true) := by show _ = _; unfold partB; simp; right; omega
   clear k0 k1 k2 k3 k4 k5 k6 k7 k8 k9 k10
   go_enter Tryz.func109, Tryz.ntmps109
   go_wp2_with fail
   refine (RStart_as c _ _ hb).mono ?_; rintro e w2 ⟨rfl, hb2⟩
   go_wp2_with fail
   go_ret
   exact ⟨by rw [hv.out]; first | rfl | (rw [hb.out]; rfl), hb2⟩
  rcases Int.lt_or_le c 8257 with k11 | k11
  ·have e45 := eF c 45
   have e46 := eF c 46
   have e183 := eF c 183
   have e8255 := eF c 8255
   have e8256 : (c == 8256) = true := by simp; omega
   have a48 := dT 48 c
   have b57 := dF c 57
   have a768 := dT 768 c
   have b879 := dF c 879
   have hv : Hid (partB c = true) := by show _ = _; unfold partB; simp; right; omega
   clear k0 k1 k2 k3 k4 k5 k6 k7 k8 k9 k10 k11
   go_enter Tryz.func109, Tryz.ntmps109
   go_wp2_with fail
   refine (RStart_as c _ _ hb).mono ?_; rintro e w2 ⟨rfl, hb2⟩
   go_wp2_with fail
   go_ret
   exact ⟨by rw [hv.out]; first | rfl | (rw [hb.out]; rfl), hb2⟩
  have e45 := eF c 45
  have e46 := eF c 46
  have e183 := eF c 183
  have e8255 := eF c 8255
  have e8256 := eF c 8256
  have a48 := dT 48 c
  have b57 := dF c 57
  have a768 := dT 768 c
  have b879 := dF c 879
  have hv : Hid (partB c = startB c) := by show _ = _; unfold partB; rw [Bool.or_eq_left_iff_imp]; simp; omega
  clear k0 k1 k2 k3 k4 k5 k6 k7 k8 k9 k10 k11
  go_enter Tryz.func109, Tryz.ntmps109
  go_wp2_with fail
  refine (RStart_as c _ _ hb).mono ?_; rintro e w2 ⟨rfl, hb2⟩
  go_wp2_with fail
  go_ret
  exact ⟨by rw [hv.out]; first | rfl | (rw [hb.out]; rfl), hb2⟩
theorem RPart_as (c : Int) (w : World) (r : Bool) (h : Hid (partB c = r)) : Calls Tryz.prog 109 #[.int .i32 c] w (Ret w (.bool r)) := by
 rw [← h.out]; exact RPart_any c w
end
end Go.Proofs.YtmkgajdgnmolkaaGreat

/-
  Texts of this claim, joined (by a program of the claim's author): PqL, PqM, W8f, WEvs, OpenG, Open, OpenW.
-/
import Derived.Test.YtcombcoilpmnkaaGreatWE1
import Derived.Test.YtcombcoilpmnkaaGreatWE16
import Derived.Test.YtcombcoilpmnkaaGreatWE8
import Derived.Test.YtcombcoilpmnkaaGreatWE18
import Derived.Test.YtcombcoilpmnkaaGreatWE17
import Derived.Test.YtcombcoilpmnkaaGreatRows
import Derived.Test.YtcombcoilpmnkaaGreatWE2
import Derived.Deep.Slices
import Derived.Deep.Fields
import Derived.ChangeSame
import Derived.Carry
import Derived.ProofKit
import Derived.Test.YtcombcoilpmnkaaGreatWE4
namespace Go.Proofs.YtcombcoilpmnkaaGreat
set_option maxRecDepth 100000
set_option maxHeartbeats 16000000
section
open Go.RowKit
theorem RCount_q (s : List UInt8) (w : World) (hs : s.length ≤ 1000000000) (n : Int) (h : Hid (countL s = n)) :
  Calls Tryz.prog 95 #[.string ⟨s.toArray⟩] w (Ret w (.int .i64 n)) := RCount_as _ w (by show s.toArray.size ≤ 1000000000; simpa using hs) n h
theorem RName_q (s : List UInt8) (w : World) (hs : s.length ≤ 1000000000) (r : Bool) (h : Hid (nameL s = r)) :
  Calls Tryz.prog 60 #[.string ⟨s.toArray⟩] w (Ret w (.bool r)) := RName_any _ w (by show s.toArray.size ≤ 1000000000; simpa using hs) r h
theorem rright_1 (num : Int) (name value : List UInt8) (w : World) (hn : name.length ≤ 1000000000) (hvl : value.length ≤ 1000000000) :
  Calls Tryz.prog 61 #[.agg #[.int .i64 1, .int .i64 num, .string ⟨name.toArray⟩, .string ⟨value.toArray⟩]] w (Ret w (.bool (decide (1 ≤ num ∧ num ≤ 9999) && decide (name = [] ∧ value = [])))) := by
 obtain ⟨v, hv⟩ : ∃ v, Hid (nameL name = v) := ⟨_, rfl⟩
 obtain ⟨n, hc⟩ : ∃ n, Hid (countL value = n) := ⟨_, rfl⟩
 try rw [hv.out]
 try rw [hc.out]
 have hneg : n < 0 → value ≠ [] := fun h e => by rw [← hc.out, e] at h; revert h; decide
 have hnem : v = true → name ≠ [] := fun h e => by rw [← hv.out, e] at h; revert h; decide
 obtain ⟨W1, hW1⟩ : ∃ W1, Hid (W1 = w.alloc (.cells #[.int .i64 1, .int .i64 num, .string ⟨name.toArray⟩, .string ⟨value.toArray⟩] 102)) := ⟨_, rfl⟩
 have hb1 : Below w.heap.size w W1 := by rw [hW1.out]; exact (Below.refl _ w).alloc (Nat.le_refl _) _
 have hz1 : w.heap.size < W1.heap.size := by rw [hW1.out]; simp
 have y : ∀ (j : Nat) (u : Value), (#[.int .i64 1, .int .i64 num, .string ⟨name.toArray⟩, .string ⟨value.toArray⟩] : Array Value)[j]? = some u → W1.cell? ⟨w.heap.size, j, none⟩ = some u := fun j u hu => by rw [hW1.out, World.cell?_alloc_at _ _ _ _ rfl]; exact hu
 have HY := Lib.hid y
 clear y
 go_enter Tryz.func61, Tryz.ntmps61
 go_wp2_with fail
 rw [← hW1.out]
 refine (RCount_q value W1 hvl n hc).mono ?_
 rintro e w2 ⟨rfl, hb2⟩
 have c0 : w2.cell? ⟨w.heap.size, 0, none⟩ = some (.int .i64 1) := (hb2.cell hz1).trans (HY.out 0 _ rfl)
 have c1 : w2.cell? ⟨w.heap.size, 1, none⟩ = some (.int .i64 num) := (hb2.cell hz1).trans (HY.out 1 _ rfl)
 have c2 : w2.cell? ⟨w.heap.size, 2, none⟩ = some (.string ⟨name.toArray⟩) := (hb2.cell hz1).trans (HY.out 2 _ rfl)
 have c3 : w2.cell? ⟨w.heap.size, 3, none⟩ = some (.string ⟨value.toArray⟩) := (hb2.cell hz1).trans (HY.out 3 _ rfl)
 have hz2 : w.heap.size < w2.heap.size := Nat.lt_of_lt_of_le hz1 hb2.size
 have HB := Lib.hid (hb1.trans (hb2.mono (Nat.le_of_lt hz1)))
 have HS : Hid (w2.drew.cell? ⟨w.heap.size, 0, none⟩ = some (.int .i64 1) ∧ w2.drew.cell? ⟨w.heap.size, 2, none⟩ = some (.string ⟨name.toArray⟩)) := ⟨c0, c2⟩
 have HC3 := Lib.hid c3
 clear hb1 hb2
 by_cases h0 : n < 0
 ·have h0v := hneg h0
  go_wp2_with fail
  all_goals go_ret
  all_goals refine ⟨?_, HB.out⟩
  all_goals (refine congrArg (fun b => Ending.returned (Value.bool b)) ?_)
  all_goals simp_all
  all_goals first | (cases value <;> rfl) | (cases name <;> rfl) | (cases name <;> cases value <;> rfl) | (intros; first | omega | assumption | simp_all)
 have h0' : 0 ≤ n := by omega
 clear h0 hneg
 by_cases hz : 1 ≤ num
 ·by_cases hzz : num ≤ 9999
  ·go_wp2_with fail
   refine wp_region_held_drew (S := fun w' => w'.cell? ⟨w.heap.size, 0, none⟩ = some (.int .i64 1) ∧ w'.cell? ⟨w.heap.size, 2, none⟩ = some (.string ⟨name.toArray⟩)) (by kernel_rfl) HS.out (fun hHeld => ?_)
   refine tkv 0 (h := tkv 1 (h := tkv 2 (h := tkv 3 (h := ?_))))
   refine tkv 4 (h := tkv 5 (h := tkv 6 (h := ?_)))
   refine tkv 7 (h := tkv 8 (h := tkv 9 (h := ?_)))
   refine rdy 10 (fun K hK => ?_)
   go_simp
   refine (RName_q name _ hn v hv).mono ?_
   rintro e5 w5 ⟨rfl, hb5⟩
   have hb5' : Below w2.heap.size w2 w5 := ((Below.refl _ w2).drew).trans hb5
   have HB5 := Lib.hid (HB.out.trans (hb5'.mono (Nat.le_of_lt hz2)))
   have HS5 : Hid (w5.cell? ⟨w.heap.size, 0, none⟩ = some (.int .i64 1) ∧ w5.cell? ⟨w.heap.size, 2, none⟩ = some (.string ⟨name.toArray⟩)) := ⟨(hb5'.cell (p := ⟨w.heap.size, 0, none⟩) hz2).trans HS.out.1, (hb5'.cell (p := ⟨w.heap.size, 2, none⟩) hz2).trans HS.out.2⟩
   have d0 : w5.cell? ⟨w.heap.size, 0, none⟩ = some (.int .i64 1) := HS5.out.1
   have d3 : w5.cell? ⟨w.heap.size, 3, none⟩ = some (.string ⟨value.toArray⟩) := (hb5'.cell (p := ⟨w.heap.size, 3, none⟩) hz2).trans HC3.out
   have D0 := Lib.hid d0
   have D3 := Lib.hid d3
   clear hb5 hb5' d0 d3 c0 c1 c2 c3
   go_wp2_with fail
   refine hK.out _ _ (HS5.out) (fun hHeld => ?_)
   clear hK K
   try go_frame
   cases v with
   | true =>
    have hne := hnem rfl
    clear hnem
    refine tkv 11 (h := tkv 12 (h := ?_))
    refine tkn 13 (h := tkn 14 (h := tkn 15 (h := tkn 16 (h := tkn 17 (h := tkn 18 (h := ?_))))))
    refine tkn 19 (h := tkn 20 (h := tkn 21 (h := tkn 22 (h := tkn 23 (h := tkn 24 (h := ?_))))))
    refine tkn 25 (h := ?_)
    refine tkv 26 (h := ?_)
    refine wpAnyH_done (by kernel_rfl) ?_ _
    clear hHeld
    have d0 := D0.out
    have d3 := D3.out
    go_wp2_with fail
    all_goals go_ret
    all_goals refine ⟨?_, HB5.out⟩
    all_goals (refine congrArg (fun b => Ending.returned (Value.bool b)) ?_)
    all_goals simp_all
    all_goals first | (cases value <;> rfl) | (cases name <;> rfl) | (cases name <;> cases value <;> rfl) | (intros; first | omega | assumption | simp_all)
   | false =>
    clear hnem
    refine tkv 11 (h := tkv 12 (h := tkv 13 (h := tkv 14 (h := tkv 15 (h := tkv 16 (h := ?_))))))
    refine tkv 17 (h := tkv 18 (h := tkv 19 (h := tkv 20 (h := tkv 21 (h := tkv 22 (h := ?_))))))
    refine tkv 23 (h := tkv 24 (h := tkv 25 (h := ?_)))
    refine tkv 26 (h := ?_)
    refine wpAnyH_done (by kernel_rfl) ?_ _
    clear hHeld
    have d0 := D0.out
    have d3 := D3.out
    go_wp2_with fail
    all_goals go_ret
    all_goals refine ⟨?_, HB5.out⟩
    all_goals (refine congrArg (fun b => Ending.returned (Value.bool b)) ?_)
    all_goals simp_all
    all_goals first | (cases value <;> rfl) | (cases name <;> rfl) | (cases name <;> cases value <;> rfl) | (intros; first | omega | assumption | simp_all)
  ·have hz3 : 9999 < num := by omega
   clear hzz
   go_wp2_with fail
   all_goals go_ret
   all_goals refine ⟨?_, HB.out⟩
   all_goals (refine congrArg (fun b => Ending.returned (Value.bool b)) ?_)
   all_goals simp_all
   all_goals first | (cases value <;> rfl) | (cases name <;> rfl) | (cases name <;> cases value <;> rfl) | (intros; first | omega | assumption | simp_all)
 ·have hz3 : num < 1 := by omega
  clear hz
  go_wp2_with fail
  all_goals go_ret
  all_goals refine ⟨?_, HB.out⟩
  all_goals (refine congrArg (fun b => Ending.returned (Value.bool b)) ?_)
  all_goals simp_all
  all_goals first | (cases value <;> rfl) | (cases name <;> rfl) | (cases name <;> cases value <;> rfl) | (intros; first | omega | assumption | simp_all)
theorem rright_2 (num : Int) (name value : List UInt8) (w : World) (hn : name.length ≤ 1000000000) (hvl : value.length ≤ 1000000000) :
  Calls Tryz.prog 61 #[.agg #[.int .i64 2, .int .i64 num, .string ⟨name.toArray⟩, .string ⟨value.toArray⟩]] w (Ret w (.bool (decide (num = 0 ∧ name = [] ∧ value = [])))) := by
 obtain ⟨v, hv⟩ : ∃ v, Hid (nameL name = v) := ⟨_, rfl⟩
 obtain ⟨n, hc⟩ : ∃ n, Hid (countL value = n) := ⟨_, rfl⟩
 try rw [hv.out]
 try rw [hc.out]
 have hneg : n < 0 → value ≠ [] := fun h e => by rw [← hc.out, e] at h; revert h; decide
 have hnem : v = true → name ≠ [] := fun h e => by rw [← hv.out, e] at h; revert h; decide
 obtain ⟨W1, hW1⟩ : ∃ W1, Hid (W1 = w.alloc (.cells #[.int .i64 2, .int .i64 num, .string ⟨name.toArray⟩, .string ⟨value.toArray⟩] 102)) := ⟨_, rfl⟩
 have hb1 : Below w.heap.size w W1 := by rw [hW1.out]; exact (Below.refl _ w).alloc (Nat.le_refl _) _
 have hz1 : w.heap.size < W1.heap.size := by rw [hW1.out]; simp
 have y : ∀ (j : Nat) (u : Value), (#[.int .i64 2, .int .i64 num, .string ⟨name.toArray⟩, .string ⟨value.toArray⟩] : Array Value)[j]? = some u → W1.cell? ⟨w.heap.size, j, none⟩ = some u := fun j u hu => by rw [hW1.out, World.cell?_alloc_at _ _ _ _ rfl]; exact hu
 have HY := Lib.hid y
 clear y
 go_enter Tryz.func61, Tryz.ntmps61
 go_wp2_with fail
 rw [← hW1.out]
 refine (RCount_q value W1 hvl n hc).mono ?_
 rintro e w2 ⟨rfl, hb2⟩
 have c0 : w2.cell? ⟨w.heap.size, 0, none⟩ = some (.int .i64 2) := (hb2.cell hz1).trans (HY.out 0 _ rfl)
 have c1 : w2.cell? ⟨w.heap.size, 1, none⟩ = some (.int .i64 num) := (hb2.cell hz1).trans (HY.out 1 _ rfl)
 have c2 : w2.cell? ⟨w.heap.size, 2, none⟩ = some (.string ⟨name.toArray⟩) := (hb2.cell hz1).trans (HY.out 2 _ rfl)
 have c3 : w2.cell? ⟨w.heap.size, 3, none⟩ = some (.string ⟨value.toArray⟩) := (hb2.cell hz1).trans (HY.out 3 _ rfl)
 have hz2 : w.heap.size < w2.heap.size := Nat.lt_of_lt_of_le hz1 hb2.size
 have HB := Lib.hid (hb1.trans (hb2.mono (Nat.le_of_lt hz1)))
 have HS : Hid (w2.drew.cell? ⟨w.heap.size, 0, none⟩ = some (.int .i64 2) ∧ w2.drew.cell? ⟨w.heap.size, 2, none⟩ = some (.string ⟨name.toArray⟩)) := ⟨c0, c2⟩
 have HC3 := Lib.hid c3
 clear hb1 hb2
 by_cases h0 : n < 0
 ·have h0v := hneg h0
  go_wp2_with fail
  all_goals go_ret
  all_goals refine ⟨?_, HB.out⟩
  all_goals (refine congrArg (fun b => Ending.returned (Value.bool b)) ?_)
  all_goals simp_all
  all_goals first | (cases value <;> rfl) | (cases name <;> rfl) | (cases name <;> cases value <;> rfl) | (intros; first | omega | assumption | simp_all)
 have h0' : 0 ≤ n := by omega
 clear h0 hneg
 by_cases hz : num = 0
 ·subst hz
  go_wp2_with fail
  refine wp_region_held_drew (S := fun w' => w'.cell? ⟨w.heap.size, 0, none⟩ = some (.int .i64 2) ∧ w'.cell? ⟨w.heap.size, 2, none⟩ = some (.string ⟨name.toArray⟩)) (by kernel_rfl) HS.out (fun hHeld => ?_)
  refine tkv 0 (h := tkv 1 (h := tkv 2 (h := tkv 3 (h := ?_))))
  refine tkv 4 (h := tkv 5 (h := tkv 6 (h := ?_)))
  refine tkv 7 (h := tkv 8 (h := tkv 9 (h := ?_)))
  refine rdy 10 (fun K hK => ?_)
  go_simp
  refine (RName_q name _ hn v hv).mono ?_
  rintro e5 w5 ⟨rfl, hb5⟩
  have hb5' : Below w2.heap.size w2 w5 := ((Below.refl _ w2).drew).trans hb5
  have HB5 := Lib.hid (HB.out.trans (hb5'.mono (Nat.le_of_lt hz2)))
  have HS5 : Hid (w5.cell? ⟨w.heap.size, 0, none⟩ = some (.int .i64 2) ∧ w5.cell? ⟨w.heap.size, 2, none⟩ = some (.string ⟨name.toArray⟩)) := ⟨(hb5'.cell (p := ⟨w.heap.size, 0, none⟩) hz2).trans HS.out.1, (hb5'.cell (p := ⟨w.heap.size, 2, none⟩) hz2).trans HS.out.2⟩
  have d0 : w5.cell? ⟨w.heap.size, 0, none⟩ = some (.int .i64 2) := HS5.out.1
  have d3 : w5.cell? ⟨w.heap.size, 3, none⟩ = some (.string ⟨value.toArray⟩) := (hb5'.cell (p := ⟨w.heap.size, 3, none⟩) hz2).trans HC3.out
  have D0 := Lib.hid d0
  have D3 := Lib.hid d3
  clear hb5 hb5' d0 d3 c0 c1 c2 c3
  go_wp2_with fail
  refine hK.out _ _ (HS5.out) (fun hHeld => ?_)
  clear hK K
  try go_frame
  cases v with
  | true =>
   have hne := hnem rfl
   clear hnem
   refine tkv 11 (h := tkv 12 (h := ?_))
   refine tkn 13 (h := tkn 14 (h := tkn 15 (h := tkn 16 (h := tkn 17 (h := tkn 18 (h := ?_))))))
   refine tkn 19 (h := tkn 20 (h := tkn 21 (h := tkn 22 (h := tkn 23 (h := tkn 24 (h := ?_))))))
   refine tkn 25 (h := ?_)
   refine tkv 26 (h := ?_)
   refine wpAnyH_done (by kernel_rfl) ?_ _
   clear hHeld
   have d0 := D0.out
   have d3 := D3.out
   go_wp2_with fail
   all_goals go_ret
   all_goals refine ⟨?_, HB5.out⟩
   all_goals (refine congrArg (fun b => Ending.returned (Value.bool b)) ?_)
   all_goals simp_all
   all_goals first | (cases value <;> rfl) | (cases name <;> rfl) | (cases name <;> cases value <;> rfl) | (intros; first | omega | assumption | simp_all)
  | false =>
   clear hnem
   refine tkv 11 (h := tkv 12 (h := tkv 13 (h := tkv 14 (h := tkv 15 (h := tkv 16 (h := ?_))))))
   refine tkv 17 (h := tkv 18 (h := tkv 19 (h := tkv 20 (h := tkv 21 (h := tkv 22 (h := ?_))))))
   refine tkv 23 (h := tkv 24 (h := tkv 25 (h := ?_)))
   refine tkv 26 (h := ?_)
   refine wpAnyH_done (by kernel_rfl) ?_ _
   clear hHeld
   have d0 := D0.out
   have d3 := D3.out
   go_wp2_with fail
   all_goals go_ret
   all_goals refine ⟨?_, HB5.out⟩
   all_goals (refine congrArg (fun b => Ending.returned (Value.bool b)) ?_)
   all_goals simp_all
   all_goals first | (cases value <;> rfl) | (cases name <;> rfl) | (cases name <;> cases value <;> rfl) | (intros; first | omega | assumption | simp_all)
 ·have e0 : (num == 0) = false := by simpa using hz
  have e1 : (num != 0) = true := by simpa using hz
  go_wp2_with fail
  all_goals go_ret
  all_goals refine ⟨?_, HB.out⟩
  all_goals (refine congrArg (fun b => Ending.returned (Value.bool b)) ?_)
  all_goals simp_all
  all_goals first | (cases value <;> rfl) | (cases name <;> rfl) | (cases name <;> cases value <;> rfl) | (intros; first | omega | assumption | simp_all)
theorem rright_3 (num : Int) (name value : List UInt8) (w : World) (hn : name.length ≤ 1000000000) (hvl : value.length ≤ 1000000000) :
  Calls Tryz.prog 61 #[.agg #[.int .i64 3, .int .i64 num, .string ⟨name.toArray⟩, .string ⟨value.toArray⟩]] w (Ret w (.bool (nameL name && decide (num = 0 ∧ value = [])))) := by
 obtain ⟨v, hv⟩ : ∃ v, Hid (nameL name = v) := ⟨_, rfl⟩
 obtain ⟨n, hc⟩ : ∃ n, Hid (countL value = n) := ⟨_, rfl⟩
 try rw [hv.out]
 try rw [hc.out]
 have hneg : n < 0 → value ≠ [] := fun h e => by rw [← hc.out, e] at h; revert h; decide
 have hnem : v = true → name ≠ [] := fun h e => by rw [← hv.out, e] at h; revert h; decide
 obtain ⟨W1, hW1⟩ : ∃ W1, Hid (W1 = w.alloc (.cells #[.int .i64 3, .int .i64 num, .string ⟨name.toArray⟩, .string ⟨value.toArray⟩] 102)) := ⟨_, rfl⟩
 have hb1 : Below w.heap.size w W1 := by rw [hW1.out]; exact (Below.refl _ w).alloc (Nat.le_refl _) _
 have hz1 : w.heap.size < W1.heap.size := by rw [hW1.out]; simp
 have y : ∀ (j : Nat) (u : Value), (#[.int .i64 3, .int .i64 num, .string ⟨name.toArray⟩, .string ⟨value.toArray⟩] : Array Value)[j]? = some u → W1.cell? ⟨w.heap.size, j, none⟩ = some u := fun j u hu => by rw [hW1.out, World.cell?_alloc_at _ _ _ _ rfl]; exact hu
 have HY := Lib.hid y
 clear y
 go_enter Tryz.func61, Tryz.ntmps61
 go_wp2_with fail
 rw [← hW1.out]
 refine (RCount_q value W1 hvl n hc).mono ?_
 rintro e w2 ⟨rfl, hb2⟩
 have c0 : w2.cell? ⟨w.heap.size, 0, none⟩ = some (.int .i64 3) := (hb2.cell hz1).trans (HY.out 0 _ rfl)
 have c1 : w2.cell? ⟨w.heap.size, 1, none⟩ = some (.int .i64 num) := (hb2.cell hz1).trans (HY.out 1 _ rfl)
 have c2 : w2.cell? ⟨w.heap.size, 2, none⟩ = some (.string ⟨name.toArray⟩) := (hb2.cell hz1).trans (HY.out 2 _ rfl)
 have c3 : w2.cell? ⟨w.heap.size, 3, none⟩ = some (.string ⟨value.toArray⟩) := (hb2.cell hz1).trans (HY.out 3 _ rfl)
 have hz2 : w.heap.size < w2.heap.size := Nat.lt_of_lt_of_le hz1 hb2.size
 have HB := Lib.hid (hb1.trans (hb2.mono (Nat.le_of_lt hz1)))
 have HS : Hid (w2.drew.cell? ⟨w.heap.size, 0, none⟩ = some (.int .i64 3) ∧ w2.drew.cell? ⟨w.heap.size, 2, none⟩ = some (.string ⟨name.toArray⟩)) := ⟨c0, c2⟩
 have HC3 := Lib.hid c3
 clear hb1 hb2
 by_cases h0 : n < 0
 ·have h0v := hneg h0
  go_wp2_with fail
  all_goals go_ret
  all_goals refine ⟨?_, HB.out⟩
  all_goals (refine congrArg (fun b => Ending.returned (Value.bool b)) ?_)
  all_goals simp_all
  all_goals first | (cases value <;> rfl) | (cases name <;> rfl) | (cases name <;> cases value <;> rfl) | (intros; first | omega | assumption | simp_all)
 have h0' : 0 ≤ n := by omega
 clear h0 hneg
 by_cases hz : num = 0
 ·subst hz
  go_wp2_with fail
  refine wp_region_held_drew (S := fun w' => w'.cell? ⟨w.heap.size, 0, none⟩ = some (.int .i64 3) ∧ w'.cell? ⟨w.heap.size, 2, none⟩ = some (.string ⟨name.toArray⟩)) (by kernel_rfl) HS.out (fun hHeld => ?_)
  refine tkv 0 (h := tkv 1 (h := tkv 2 (h := tkv 3 (h := ?_))))
  refine tkn 4 (h := tkn 5 (h := tkn 6 (h := ?_)))
  refine tkv 7 (h := tkv 8 (h := tkv 9 (h := ?_)))
  refine rdy 10 (fun K hK => ?_)
  go_simp
  refine (RName_q name _ hn v hv).mono ?_
  rintro e5 w5 ⟨rfl, hb5⟩
  have hb5' : Below w2.heap.size w2 w5 := ((Below.refl _ w2).drew).trans hb5
  have HB5 := Lib.hid (HB.out.trans (hb5'.mono (Nat.le_of_lt hz2)))
  have HS5 : Hid (w5.cell? ⟨w.heap.size, 0, none⟩ = some (.int .i64 3) ∧ w5.cell? ⟨w.heap.size, 2, none⟩ = some (.string ⟨name.toArray⟩)) := ⟨(hb5'.cell (p := ⟨w.heap.size, 0, none⟩) hz2).trans HS.out.1, (hb5'.cell (p := ⟨w.heap.size, 2, none⟩) hz2).trans HS.out.2⟩
  have d0 : w5.cell? ⟨w.heap.size, 0, none⟩ = some (.int .i64 3) := HS5.out.1
  have d3 : w5.cell? ⟨w.heap.size, 3, none⟩ = some (.string ⟨value.toArray⟩) := (hb5'.cell (p := ⟨w.heap.size, 3, none⟩) hz2).trans HC3.out
  have D0 := Lib.hid d0
  have D3 := Lib.hid d3
  clear hb5 hb5' d0 d3 c0 c1 c2 c3
  go_wp2_with fail
  refine hK.out _ _ (HS5.out) (fun hHeld => ?_)
  clear hK K
  try go_frame
  cases v with
  | true =>
   clear hnem
   refine tkv 11 (h := tkv 12 (h := tkv 13 (h := tkv 14 (h := tkv 15 (h := tkv 16 (h := ?_))))))
   refine tkn 17 (h := tkn 18 (h := tkn 19 (h := ?_)))
   refine tkv 20 (h := tkv 21 (h := ?_))
   refine tkn 22 (h := tkn 23 (h := tkn 24 (h := ?_)))
   refine tkv 25 (h := ?_)
   refine tkv 26 (h := ?_)
   refine wpAnyH_done (by kernel_rfl) ?_ _
   clear hHeld
   have d0 := D0.out
   have d3 := D3.out
   go_wp2_with fail
   all_goals go_ret
   all_goals refine ⟨?_, HB5.out⟩
   all_goals (refine congrArg (fun b => Ending.returned (Value.bool b)) ?_)
   all_goals simp_all
   all_goals first | (cases value <;> rfl) | (cases name <;> rfl) | (cases name <;> cases value <;> rfl) | (intros; first | omega | assumption | simp_all)
  | false =>
   clear hnem
   refine tkv 11 (h := tkv 12 (h := ?_))
   refine tkn 13 (h := tkn 14 (h := tkn 15 (h := tkn 16 (h := tkn 17 (h := tkn 18 (h := ?_))))))
   refine tkn 19 (h := tkn 20 (h := tkn 21 (h := tkn 22 (h := tkn 23 (h := tkn 24 (h := ?_))))))
   refine tkn 25 (h := ?_)
   refine tkv 26 (h := ?_)
   refine wpAnyH_done (by kernel_rfl) ?_ _
   clear hHeld
   have d0 := D0.out
   have d3 := D3.out
   go_wp2_with fail
   all_goals go_ret
   all_goals refine ⟨?_, HB5.out⟩
   all_goals (refine congrArg (fun b => Ending.returned (Value.bool b)) ?_)
   all_goals simp_all
   all_goals first | (cases value <;> rfl) | (cases name <;> rfl) | (cases name <;> cases value <;> rfl) | (intros; first | omega | assumption | simp_all)
 ·have e0 : (num == 0) = false := by simpa using hz
  have e1 : (num != 0) = true := by simpa using hz
  go_wp2_with fail
  all_goals go_ret
  all_goals refine ⟨?_, HB.out⟩
  all_goals (refine congrArg (fun b => Ending.returned (Value.bool b)) ?_)
  all_goals simp_all
  all_goals first | (cases value <;> rfl) | (cases name <;> rfl) | (cases name <;> cases value <;> rfl) | (intros; first | omega | assumption | simp_all)
theorem rright_4 (num : Int) (name value : List UInt8) (w : World) (hn : name.length ≤ 1000000000) (hvl : value.length ≤ 1000000000) :
  Calls Tryz.prog 61 #[.agg #[.int .i64 4, .int .i64 num, .string ⟨name.toArray⟩, .string ⟨value.toArray⟩]] w (Ret w (.bool (nameL name && (decide (0 ≤ countL value) && decide (num = 0))))) := by
 obtain ⟨v, hv⟩ : ∃ v, Hid (nameL name = v) := ⟨_, rfl⟩
 obtain ⟨n, hc⟩ : ∃ n, Hid (countL value = n) := ⟨_, rfl⟩
 try rw [hv.out]
 try rw [hc.out]
 have hneg : n < 0 → value ≠ [] := fun h e => by rw [← hc.out, e] at h; revert h; decide
 have hnem : v = true → name ≠ [] := fun h e => by rw [← hv.out, e] at h; revert h; decide
 obtain ⟨W1, hW1⟩ : ∃ W1, Hid (W1 = w.alloc (.cells #[.int .i64 4, .int .i64 num, .string ⟨name.toArray⟩, .string ⟨value.toArray⟩] 102)) := ⟨_, rfl⟩
 have hb1 : Below w.heap.size w W1 := by rw [hW1.out]; exact (Below.refl _ w).alloc (Nat.le_refl _) _
 have hz1 : w.heap.size < W1.heap.size := by rw [hW1.out]; simp
 have y : ∀ (j : Nat) (u : Value), (#[.int .i64 4, .int .i64 num, .string ⟨name.toArray⟩, .string ⟨value.toArray⟩] : Array Value)[j]? = some u → W1.cell? ⟨w.heap.size, j, none⟩ = some u := fun j u hu => by rw [hW1.out, World.cell?_alloc_at _ _ _ _ rfl]; exact hu
 have HY := Lib.hid y
 clear y
 go_enter Tryz.func61, Tryz.ntmps61
 go_wp2_with fail
 rw [← hW1.out]
 refine (RCount_q value W1 hvl n hc).mono ?_
 rintro e w2 ⟨rfl, hb2⟩
 have c0 : w2.cell? ⟨w.heap.size, 0, none⟩ = some (.int .i64 4) := (hb2.cell hz1).trans (HY.out 0 _ rfl)
 have c1 : w2.cell? ⟨w.heap.size, 1, none⟩ = some (.int .i64 num) := (hb2.cell hz1).trans (HY.out 1 _ rfl)
 have c2 : w2.cell? ⟨w.heap.size, 2, none⟩ = some (.string ⟨name.toArray⟩) := (hb2.cell hz1).trans (HY.out 2 _ rfl)
 have c3 : w2.cell? ⟨w.heap.size, 3, none⟩ = some (.string ⟨value.toArray⟩) := (hb2.cell hz1).trans (HY.out 3 _ rfl)
 have hz2 : w.heap.size < w2.heap.size := Nat.lt_of_lt_of_le hz1 hb2.size
 have HB := Lib.hid (hb1.trans (hb2.mono (Nat.le_of_lt hz1)))
 have HS : Hid (w2.drew.cell? ⟨w.heap.size, 0, none⟩ = some (.int .i64 4) ∧ w2.drew.cell? ⟨w.heap.size, 2, none⟩ = some (.string ⟨name.toArray⟩)) := ⟨c0, c2⟩
 have HC3 := Lib.hid c3
 clear hb1 hb2
 by_cases h0 : n < 0
 ·have h0v := hneg h0
  go_wp2_with fail
  all_goals go_ret
  all_goals refine ⟨?_, HB.out⟩
  all_goals (refine congrArg (fun b => Ending.returned (Value.bool b)) ?_)
  all_goals simp_all
  all_goals first | (cases value <;> rfl) | (cases name <;> rfl) | (cases name <;> cases value <;> rfl) | (intros; first | omega | assumption | simp_all)
 have h0' : 0 ≤ n := by omega
 clear h0 hneg
 by_cases hz : num = 0
 ·subst hz
  go_wp2_with fail
  refine wp_region_held_drew (S := fun w' => w'.cell? ⟨w.heap.size, 0, none⟩ = some (.int .i64 4) ∧ w'.cell? ⟨w.heap.size, 2, none⟩ = some (.string ⟨name.toArray⟩)) (by kernel_rfl) HS.out (fun hHeld => ?_)
  refine tkv 0 (h := tkv 1 (h := tkv 2 (h := tkv 3 (h := ?_))))
  refine tkv 4 (h := tkv 5 (h := tkv 6 (h := ?_)))
  refine tkv 7 (h := tkv 8 (h := tkv 9 (h := ?_)))
  refine rdy 10 (fun K hK => ?_)
  go_simp
  refine (RName_q name _ hn v hv).mono ?_
  rintro e5 w5 ⟨rfl, hb5⟩
  have hb5' : Below w2.heap.size w2 w5 := ((Below.refl _ w2).drew).trans hb5
  have HB5 := Lib.hid (HB.out.trans (hb5'.mono (Nat.le_of_lt hz2)))
  have HS5 : Hid (w5.cell? ⟨w.heap.size, 0, none⟩ = some (.int .i64 4) ∧ w5.cell? ⟨w.heap.size, 2, none⟩ = some (.string ⟨name.toArray⟩)) := ⟨(hb5'.cell (p := ⟨w.heap.size, 0, none⟩) hz2).trans HS.out.1, (hb5'.cell (p := ⟨w.heap.size, 2, none⟩) hz2).trans HS.out.2⟩
  have d0 : w5.cell? ⟨w.heap.size, 0, none⟩ = some (.int .i64 4) := HS5.out.1
  have d3 : w5.cell? ⟨w.heap.size, 3, none⟩ = some (.string ⟨value.toArray⟩) := (hb5'.cell (p := ⟨w.heap.size, 3, none⟩) hz2).trans HC3.out
  have D0 := Lib.hid d0
  have D3 := Lib.hid d3
  clear hb5 hb5' d0 d3 c0 c1 c2 c3
  go_wp2_with fail
  refine hK.out _ _ (HS5.out) (fun hHeld => ?_)
  clear hK K
  try go_frame
  cases v with
  | true =>
   clear hnem
   refine tkv 11 (h := tkv 12 (h := tkv 13 (h := tkv 14 (h := tkv 15 (h := tkv 16 (h := ?_))))))
   refine tkv 17 (h := tkv 18 (h := tkv 19 (h := ?_)))
   refine tkv 20 (h := tkv 21 (h := ?_))
   refine tkn 22 (h := tkn 23 (h := tkn 24 (h := ?_)))
   refine tkv 25 (h := ?_)
   refine tkv 26 (h := ?_)
   refine wpAnyH_done (by kernel_rfl) ?_ _
   clear hHeld
   have d0 := D0.out
   have d3 := D3.out
   go_wp2_with fail
   all_goals go_ret
   all_goals refine ⟨?_, HB5.out⟩
   all_goals (refine congrArg (fun b => Ending.returned (Value.bool b)) ?_)
   all_goals simp_all
   all_goals first | (cases value <;> rfl) | (cases name <;> rfl) | (cases name <;> cases value <;> rfl) | (intros; first | omega | assumption | simp_all)
  | false =>
   clear hnem
   refine tkv 11 (h := tkv 12 (h := ?_))
   refine tkn 13 (h := tkn 14 (h := tkn 15 (h := tkn 16 (h := tkn 17 (h := tkn 18 (h := ?_))))))
   refine tkn 19 (h := tkn 20 (h := tkn 21 (h := tkn 22 (h := tkn 23 (h := tkn 24 (h := ?_))))))
   refine tkn 25 (h := ?_)
   refine tkv 26 (h := ?_)
   refine wpAnyH_done (by kernel_rfl) ?_ _
   clear hHeld
   have d0 := D0.out
   have d3 := D3.out
   go_wp2_with fail
   all_goals go_ret
   all_goals refine ⟨?_, HB5.out⟩
   all_goals (refine congrArg (fun b => Ending.returned (Value.bool b)) ?_)
   all_goals simp_all
   all_goals first | (cases value <;> rfl) | (cases name <;> rfl) | (cases name <;> cases value <;> rfl) | (intros; first | omega | assumption | simp_all)
 ·have e0 : (num == 0) = false := by simpa using hz
  have e1 : (num != 0) = true := by simpa using hz
  go_wp2_with fail
  all_goals go_ret
  all_goals refine ⟨?_, HB.out⟩
  all_goals (refine congrArg (fun b => Ending.returned (Value.bool b)) ?_)
  all_goals simp_all
  all_goals first | (cases value <;> rfl) | (cases name <;> rfl) | (cases name <;> cases value <;> rfl) | (intros; first | omega | assumption | simp_all)
theorem rright_5 (num : Int) (name value : List UInt8) (w : World) (hn : name.length ≤ 1000000000) (hvl : value.length ≤ 1000000000) :
  Calls Tryz.prog 61 #[.agg #[.int .i64 5, .int .i64 num, .string ⟨name.toArray⟩, .string ⟨value.toArray⟩]] w (Ret w (.bool (decide (0 ≤ countL value) && decide (num = 0 ∧ name = [])))) := by
 obtain ⟨v, hv⟩ : ∃ v, Hid (nameL name = v) := ⟨_, rfl⟩
 obtain ⟨n, hc⟩ : ∃ n, Hid (countL value = n) := ⟨_, rfl⟩
 try rw [hv.out]
 try rw [hc.out]
 have hneg : n < 0 → value ≠ [] := fun h e => by rw [← hc.out, e] at h; revert h; decide
 have hnem : v = true → name ≠ [] := fun h e => by rw [← hv.out, e] at h; revert h; decide
 obtain ⟨W1, hW1⟩ : ∃ W1, Hid (W1 = w.alloc (.cells #[.int .i64 5, .int .i64 num, .string ⟨name.toArray⟩, .string ⟨value.toArray⟩] 102)) := ⟨_, rfl⟩
 have hb1 : Below w.heap.size w W1 := by rw [hW1.out]; exact (Below.refl _ w).alloc (Nat.le_refl _) _
 have hz1 : w.heap.size < W1.heap.size := by rw [hW1.out]; simp
 have y : ∀ (j : Nat) (u : Value), (#[.int .i64 5, .int .i64 num, .string ⟨name.toArray⟩, .string ⟨value.toArray⟩] : Array Value)[j]? = some u → W1.cell? ⟨w.heap.size, j, none⟩ = some u := fun j u hu => by rw [hW1.out, World.cell?_alloc_at _ _ _ _ rfl]; exact hu
 have HY := Lib.hid y
 clear y
 go_enter Tryz.func61, Tryz.ntmps61
 go_wp2_with fail
 rw [← hW1.out]
 refine (RCount_q value W1 hvl n hc).mono ?_
 rintro e w2 ⟨rfl, hb2⟩
 have c0 : w2.cell? ⟨w.heap.size, 0, none⟩ = some (.int .i64 5) := (hb2.cell hz1).trans (HY.out 0 _ rfl)
 have c1 : w2.cell? ⟨w.heap.size, 1, none⟩ = some (.int .i64 num) := (hb2.cell hz1).trans (HY.out 1 _ rfl)
 have c2 : w2.cell? ⟨w.heap.size, 2, none⟩ = some (.string ⟨name.toArray⟩) := (hb2.cell hz1).trans (HY.out 2 _ rfl)
 have c3 : w2.cell? ⟨w.heap.size, 3, none⟩ = some (.string ⟨value.toArray⟩) := (hb2.cell hz1).trans (HY.out 3 _ rfl)
 have hz2 : w.heap.size < w2.heap.size := Nat.lt_of_lt_of_le hz1 hb2.size
 have HB := Lib.hid (hb1.trans (hb2.mono (Nat.le_of_lt hz1)))
 have HS : Hid (w2.drew.cell? ⟨w.heap.size, 0, none⟩ = some (.int .i64 5) ∧ w2.drew.cell? ⟨w.heap.size, 2, none⟩ = some (.string ⟨name.toArray⟩)) := ⟨c0, c2⟩
 have HC3 := Lib.hid c3
 clear hb1 hb2
 by_cases h0 : n < 0
 ·have h0v := hneg h0
  go_wp2_with fail
  all_goals go_ret
  all_goals refine ⟨?_, HB.out⟩
  all_goals (refine congrArg (fun b => Ending.returned (Value.bool b)) ?_)
  all_goals simp_all
  all_goals first | (cases value <;> rfl) | (cases name <;> rfl) | (cases name <;> cases value <;> rfl) | (intros; first | omega | assumption | simp_all)
 have h0' : 0 ≤ n := by omega
 clear h0 hneg
 by_cases hz : num = 0
 ·subst hz
  go_wp2_with fail
  refine wp_region_held_drew (S := fun w' => w'.cell? ⟨w.heap.size, 0, none⟩ = some (.int .i64 5) ∧ w'.cell? ⟨w.heap.size, 2, none⟩ = some (.string ⟨name.toArray⟩)) (by kernel_rfl) HS.out (fun hHeld => ?_)
  refine tkv 0 (h := tkv 1 (h := tkv 2 (h := tkv 3 (h := ?_))))
  refine tkv 4 (h := tkv 5 (h := tkv 6 (h := ?_)))
  refine tkv 7 (h := tkv 8 (h := tkv 9 (h := ?_)))
  refine rdy 10 (fun K hK => ?_)
  go_simp
  refine (RName_q name _ hn v hv).mono ?_
  rintro e5 w5 ⟨rfl, hb5⟩
  have hb5' : Below w2.heap.size w2 w5 := ((Below.refl _ w2).drew).trans hb5
  have HB5 := Lib.hid (HB.out.trans (hb5'.mono (Nat.le_of_lt hz2)))
  have HS5 : Hid (w5.cell? ⟨w.heap.size, 0, none⟩ = some (.int .i64 5) ∧ w5.cell? ⟨w.heap.size, 2, none⟩ = some (.string ⟨name.toArray⟩)) := ⟨(hb5'.cell (p := ⟨w.heap.size, 0, none⟩) hz2).trans HS.out.1, (hb5'.cell (p := ⟨w.heap.size, 2, none⟩) hz2).trans HS.out.2⟩
  have d0 : w5.cell? ⟨w.heap.size, 0, none⟩ = some (.int .i64 5) := HS5.out.1
  have d3 : w5.cell? ⟨w.heap.size, 3, none⟩ = some (.string ⟨value.toArray⟩) := (hb5'.cell (p := ⟨w.heap.size, 3, none⟩) hz2).trans HC3.out
  have D0 := Lib.hid d0
  have D3 := Lib.hid d3
  clear hb5 hb5' d0 d3 c0 c1 c2 c3
  go_wp2_with fail
  refine hK.out _ _ (HS5.out) (fun hHeld => ?_)
  clear hK K
  try go_frame
  cases v with
  | true =>
   have hne := hnem rfl
   clear hnem
   refine tkv 11 (h := tkv 12 (h := ?_))
   refine tkn 13 (h := tkn 14 (h := tkn 15 (h := tkn 16 (h := tkn 17 (h := tkn 18 (h := ?_))))))
   refine tkn 19 (h := tkn 20 (h := tkn 21 (h := tkn 22 (h := tkn 23 (h := tkn 24 (h := ?_))))))
   refine tkn 25 (h := ?_)
   refine tkv 26 (h := ?_)
   refine wpAnyH_done (by kernel_rfl) ?_ _
   clear hHeld
   have d0 := D0.out
   have d3 := D3.out
   go_wp2_with fail
   all_goals go_ret
   all_goals refine ⟨?_, HB5.out⟩
   all_goals (refine congrArg (fun b => Ending.returned (Value.bool b)) ?_)
   all_goals simp_all
   all_goals first | (cases value <;> rfl) | (cases name <;> rfl) | (cases name <;> cases value <;> rfl) | (intros; first | omega | assumption | simp_all)
  | false =>
   clear hnem
   refine tkv 11 (h := tkv 12 (h := tkv 13 (h := tkv 14 (h := tkv 15 (h := tkv 16 (h := ?_))))))
   refine tkv 17 (h := tkv 18 (h := tkv 19 (h := tkv 20 (h := tkv 21 (h := tkv 22 (h := ?_))))))
   refine tkv 23 (h := tkv 24 (h := tkv 25 (h := ?_)))
   refine tkv 26 (h := ?_)
   refine wpAnyH_done (by kernel_rfl) ?_ _
   clear hHeld
   have d0 := D0.out
   have d3 := D3.out
   go_wp2_with fail
   all_goals go_ret
   all_goals refine ⟨?_, HB5.out⟩
   all_goals (refine congrArg (fun b => Ending.returned (Value.bool b)) ?_)
   all_goals simp_all
   all_goals first | (cases value <;> rfl) | (cases name <;> rfl) | (cases name <;> cases value <;> rfl) | (intros; first | omega | assumption | simp_all)
 ·have e0 : (num == 0) = false := by simpa using hz
  have e1 : (num != 0) = true := by simpa using hz
  go_wp2_with fail
  all_goals go_ret
  all_goals refine ⟨?_, HB.out⟩
  all_goals (refine congrArg (fun b => Ending.returned (Value.bool b)) ?_)
  all_goals simp_all
  all_goals first | (cases value <;> rfl) | (cases name <;> rfl) | (cases name <;> cases value <;> rfl) | (intros; first | omega | assumption | simp_all)
theorem rright_no (k num : Int) (name value : List UInt8) (w : World) (h : k < 1 ∨ 5 < k) :
  Calls Tryz.prog 61 #[.agg #[.int .i64 k, .int .i64 num, .string ⟨name.toArray⟩, .string ⟨value.toArray⟩]] w (Ret w (.bool false)) := by
 rcases h with h | h
 ·go_enter Tryz.func61, Tryz.ntmps61
  go_wp2_with fail
  go_ret
  exact ⟨rfl, (Below.refl _ w).alloc (Nat.le_refl _) _⟩
 ·have h1 : 1 ≤ k := by omega
  go_enter Tryz.func61, Tryz.ntmps61
  go_wp2_with fail
  go_ret
  exact ⟨rfl, (Below.refl _ w).alloc (Nat.le_refl _) _⟩
theorem rright_any (p : PredD) (w : World) (hp : SmallPred p) (v : Bool) (hv : Hid (predB p = v)) : Calls Tryz.prog 61 #[.agg (predC p)] w (Ret w (.bool v)) := by
 rw [← hv.out]
 obtain ⟨k, n, name, value⟩ := p
 obtain ⟨hn, hvl⟩ := hp
 unfold predB predC
 simp only
 by_cases h1 : k = 1
 ·subst h1; rw [if_pos rfl]; exact rright_1 n name value w hn hvl
 rw [if_neg h1]
 by_cases h2 : k = 2
 ·subst h2; rw [if_pos rfl]; exact rright_2 n name value w hn hvl
 rw [if_neg h2]
 by_cases h3 : k = 3
 ·subst h3; rw [if_pos rfl]; exact rright_3 n name value w hn hvl
 rw [if_neg h3]
 by_cases h4 : k = 4
 ·subst h4; rw [if_pos rfl]; exact rright_4 n name value w hn hvl
 rw [if_neg h4]
 by_cases h5 : k = 5
 ·subst h5; rw [if_pos rfl]; exact rright_5 n name value w hn hvl
 rw [if_neg h5]
 exact rright_no k n name value w (by omega)
end
section
open Go.RowKit
theorem RRight_any (l : List StepD) (A : Option Addr) (c : Nat) (w : World) (hA : StepsAt w w.heap.size A l) (hs : SmallSteps l) (R : Bool) (hR : Hid (rightL l = R)) :
  Calls Tryz.prog 35 #[.slice A l.length c] w (Ret w (.bool R)) := by
 have HA := Lib.hid hA
 have HS := Lib.hid hs
 obtain ⟨Q, hQ⟩ : ∃ Q, Hid (l.all stepB = Q) := ⟨_, rfl⟩
 have hRQ := hR.out
 unfold rightL at hRQ
 rw [hQ.out] at hRQ
 have HRQ := Lib.hid hRQ
 have hl := hs.1
 clear hA hs hRQ hR
 go_enter Tryz.func35, Tryz.ntmps35
 go_wp2_with fail
 go_loopw [3] (fun i wr => ∃ (n : Nat), n ≤ l.length ∧ i = .int .i64 (n : Int) ∧ Hid ((l.drop n).all stepB = Q) ∧ Hid (Below w.heap.size w wr)) (fun i _ => l.length - (intOf i).toNat)
 case atStart => exact ⟨0, Nat.zero_le _, by go_num, hQ.out, Below.refl _ _⟩
 case round =>
  obtain ⟨n, hnl, rfl, hin, hbelH⟩ := hrel
  have j0 : (0 : Int) ≤ (n : Int) := by omega
  by_cases hlt : n < l.length
  ·obtain ⟨ad, rfl, _⟩ := HA.out (by omega)
   obtain ⟨s, hy⟩ : ∃ s, Hid (l[n]? = some s) := ⟨l[n], List.getElem?_eq_getElem _⟩
   obtain ⟨hb, A', c', hpa, hpc, hs0, hs1, hs2, hs3⟩ := HA.out.item hy.out
   obtain ⟨hsn, hsp, hsm⟩ := HS.out.2 s (List.mem_of_getElem? hy.out)
   have HSM := Lib.hid hsm
   have HPA := Lib.hid hpa
   have hbel := hbelH.out
   have hin' := hin.out
   rw [drop_cons hy.out, List.all_cons, stepB_head] at hin'
   have j1 : (n : Int) < l.length := by omega
   have c0 : wr.cell? (ad.add (n * 4)) = some (.int .i64 s.axis) := (hbel.cell (by rw [block_of_add]; exact hb)).trans hs0
   have c1 : wr.cell? ⟨(ad.add (n * 4)).block, (ad.add (n * 4)).off + 1, none⟩ = some (.int .i64 s.test) := (hbel.cell (by show (ad.add _).block < _; rw [block_of_add]; exact hb)).trans hs1
   have c2 : wr.cell? ⟨(ad.add (n * 4)).block, (ad.add (n * 4)).off + 2, none⟩ = some (.string ⟨s.name.toArray⟩) := (hbel.cell (by show (ad.add _).block < _; rw [block_of_add]; exact hb)).trans hs2
   have c3 : wr.cell? ⟨(ad.add (n * 4)).block, (ad.add (n * 4)).off + 3, none⟩ = some (.slice A' s.preds.length c') := (hbel.cell (by show (ad.add _).block < _; rw [block_of_add]; exact hb)).trans hs3
   clear hs0 hs1 hs2 hs3 hpa hsm hin hbel
   obtain ⟨W1, hW1⟩ : ∃ W1, Hid (W1 = wr.alloc (.cells #[.int .i64 s.axis, .int .i64 s.test, .string ⟨s.name.toArray⟩, .slice A' s.preds.length c'] 45)) := ⟨_, rfl⟩
   have hb1 : Below wr.heap.size wr W1 := by rw [hW1.out]; exact (Below.refl _ wr).alloc (Nat.le_refl _) _
   have hz1 : wr.heap.size < W1.heap.size := by rw [hW1.out]; simp
   have HB1 : Hid (Below w.heap.size w W1) := hbelH.out.trans (hb1.mono hbelH.out.size)
   have y : ∀ (j : Nat) (u : Value), (#[.int .i64 s.axis, .int .i64 s.test, .string ⟨s.name.toArray⟩, .slice A' s.preds.length c'] : Array Value)[j]? = some u → W1.cell? ⟨wr.heap.size, j, none⟩ = some u := fun j u hu => by rw [hW1.out, World.cell?_alloc_at _ _ _ _ rfl]; exact hu
   have HY := Lib.hid y
   clear y
   by_cases h0 : (1 ≤ s.axis ∧ s.axis ≤ 8) ∧ (1 ≤ s.test ∧ s.test ≤ 4) ∧ s.preds.length ≤ 5
   ·obtain ⟨⟨a1, a2⟩, ⟨a3, a4⟩, a5⟩ := h0
    have a5' : (s.preds.length : Int) ≤ 5 := by omega
    have hok : headB s = nameB s := by unfold headB; simp [a1, a2, a3, a4, a5]
    by_cases ht : s.test = 1
    ·have t1 : (s.test == 1) = true := by simpa using ht
     have t2 : (s.test != 1) = false := by simpa using ht
     obtain ⟨v, hv⟩ : ∃ v, Hid (nameL s.name = v) := ⟨_, rfl⟩
     have hnm : nameB s = v := by unfold nameB; rw [if_pos ht]; exact hv.out
     rw [hok, hnm] at hin'
     clear ht hok hnm
     cases v with
     | false =>
      have HQ : Hid (Q = false) := by show _ = _; rw [← hin']; rfl
      have HR : Hid (R = false) := by show _ = _; rw [← HRQ.out, HQ.out]; rfl
      clear hin'
      go_wp2_with fail
      rw [← hW1.out]
      refine (RName_q s.name W1 hsn false hv).mono ?_
      rintro e w2 ⟨rfl, hb2⟩
      have b0 : w2.cell? ⟨wr.heap.size, 0, none⟩ = some (.int .i64 s.axis) := (hb2.cell hz1).trans (HY.out 0 _ rfl)
      have b1 : w2.cell? ⟨wr.heap.size, 1, none⟩ = some (.int .i64 s.test) := (hb2.cell hz1).trans (HY.out 1 _ rfl)
      have b2 : w2.cell? ⟨wr.heap.size, 2, none⟩ = some (.string ⟨s.name.toArray⟩) := (hb2.cell hz1).trans (HY.out 2 _ rfl)
      have b3 : w2.cell? ⟨wr.heap.size, 3, none⟩ = some (.slice A' s.preds.length c') := (hb2.cell hz1).trans (HY.out 3 _ rfl)
      have HB2 : Hid (Below w.heap.size w w2) := HB1.out.trans (hb2.mono HB1.out.size)
      have hz2 : wr.heap.size < w2.heap.size := Nat.lt_of_lt_of_le hz1 hb2.size
      have HB3 : Hid (w2.cell? ⟨wr.heap.size, 3, none⟩ = some (.slice A' s.preds.length c')) := b3
      clear hb2 hb1 c0 c1 c2 c3
      go_wp2_with fail
      go_ret
      exact ⟨by rw [HR.out]; rfl, HB2.out⟩
     | true =>
      obtain ⟨Q2, hQ2⟩ : ∃ Q2, Hid (s.preds.all predB = Q2) := ⟨_, rfl⟩
      rw [Bool.true_and, hQ2.out] at hin'
      go_wp2_with fail
      rw [← hW1.out]
      refine (RName_q s.name W1 hsn true hv).mono ?_
      rintro e w2 ⟨rfl, hb2⟩
      have b0 : w2.cell? ⟨wr.heap.size, 0, none⟩ = some (.int .i64 s.axis) := (hb2.cell hz1).trans (HY.out 0 _ rfl)
      have b1 : w2.cell? ⟨wr.heap.size, 1, none⟩ = some (.int .i64 s.test) := (hb2.cell hz1).trans (HY.out 1 _ rfl)
      have b2 : w2.cell? ⟨wr.heap.size, 2, none⟩ = some (.string ⟨s.name.toArray⟩) := (hb2.cell hz1).trans (HY.out 2 _ rfl)
      have b3 : w2.cell? ⟨wr.heap.size, 3, none⟩ = some (.slice A' s.preds.length c') := (hb2.cell hz1).trans (HY.out 3 _ rfl)
      have HB2 : Hid (Below w.heap.size w w2) := HB1.out.trans (hb2.mono HB1.out.size)
      have hz2 : wr.heap.size < w2.heap.size := Nat.lt_of_lt_of_le hz1 hb2.size
      have HB3 : Hid (w2.cell? ⟨wr.heap.size, 3, none⟩ = some (.slice A' s.preds.length c')) := b3
      clear hb2 hb1 c0 c1 c2 c3
      go_wp2_with fail
      clear b0 b1 b2 b3
      obtain ⟨q, hq⟩ : ∃ q, Hid (wr.heap.size = q) := ⟨_, rfl⟩
      have H3 : Hid (w2.cell? ⟨q, 3, none⟩ = some (.slice A' s.preds.length c')) := by show _ = _; rw [← hq.out]; exact HB3.out
      rw [hq.out]
      have HZ : q < w2.heap.size := by rw [← hq.out]; exact hz2
      go_loopw [5] (fun i wq => ∃ (m : Nat), m ≤ s.preds.length ∧ i = .int .i64 (m : Int) ∧ Hid ((s.preds.drop m).all predB = Q2) ∧ Hid (Below w2.heap.size w2 wq)) (fun i _ => s.preds.length - (intOf i).toNat)
      case atStart => exact ⟨0, Nat.zero_le _, by go_num, hQ2.out, Below.refl _ _⟩
      case round =>
       rename_i wq0 _
       obtain ⟨m, hml, rfl, hin2, hbq0⟩ := hrel
       have hbq : Hid (Below w.heap.size w wr) := HB2.out.trans (hbq0.out.mono HB2.out.size)
       have hc3 : wr.cell? ⟨q, 3, none⟩ = some (.slice A' s.preds.length c') := (hbq0.out.cell (p := ⟨q, 3, none⟩) HZ).trans H3.out
       have m0 : (0 : Int) ≤ (m : Int) := by omega
       by_cases hmt : m < s.preds.length
       ·obtain ⟨pd, rfl, _⟩ := HPA.out (by omega)
        obtain ⟨x, hx⟩ : ∃ x, Hid (s.preds[m]? = some x) := ⟨s.preds[m], List.getElem?_eq_getElem _⟩
        obtain ⟨pd', he', hpb, hpc'⟩ := HPA.out (by omega)
        injection he' with he'
        subst he'
        obtain ⟨p0, p1, p2, p3⟩ := hpc' m x hx.out
        have q0 := (hbq.out.cell (p := pd.add (m * 4)) (by rw [block_of_add]; exact hpb)).trans p0
        have q1 := (hbq.out.cell (p := ⟨(pd.add (m * 4)).block, (pd.add (m * 4)).off + 1, none⟩) (by show (pd.add _).block < _; rw [block_of_add]; exact hpb)).trans p1
        have q2 := (hbq.out.cell (p := ⟨(pd.add (m * 4)).block, (pd.add (m * 4)).off + 2, none⟩) (by show (pd.add _).block < _; rw [block_of_add]; exact hpb)).trans p2
        have q3 := (hbq.out.cell (p := ⟨(pd.add (m * 4)).block, (pd.add (m * 4)).off + 3, none⟩) (by show (pd.add _).block < _; rw [block_of_add]; exact hpb)).trans p3
        have m1 : (m : Int) < s.preds.length := by omega
        obtain ⟨v, hv⟩ : ∃ v, Hid (predB x = v) := ⟨_, rfl⟩
        have hin3 := hin2.out
        rw [drop_cons hx.out, List.all_cons, hv.out] at hin3
        clear p0 p1 p2 p3 hpc' hin2
        go_wp2_with fail
        refine (rright_any x _ (HSM.out x (List.mem_of_getElem? hx.out)) v hv).mono ?_
        rintro e w8 ⟨rfl, hb8⟩
        have hb9 : Hid (Below w.heap.size w w8) := hbq.out.trans (hb8.mono hbq.out.size)
        have hb10 : Hid (Below w2.heap.size w2 w8) := hbq0.out.trans (hb8.mono hbq0.out.size)
        clear q0 q1 q2 q3 hb8 hc3
        cases v with
        | false =>
         have HR : Hid (R = false) := by
          show _ = _
          rw [← HRQ.out, ← hin', ← hin3]; rfl
         go_wp2_with fail
         go_ret
         exact ⟨by rw [HR.out]; rfl, hb9.out⟩
        | true =>
         have HIN3 : Hid ((s.preds.drop (m + 1)).all predB = Q2) := by show _ = _; rw [← hin3]; rfl
         go_wp2_with fail
         go_roundw
         case rel => exact ⟨m + 1, by omega, by go_num, HIN3, hb10.out⟩
         case measure => simp [intOf]; omega
       ·have HQ2 : Hid (Q2 = true) := by
         show _ = _
         rw [← hin2.out, List.drop_eq_nil_of_le (by omega)]; rfl
        have HIN : Hid ((l.drop (n + 1)).all stepB = Q) := by show _ = _; rw [← hin', HQ2.out]; rfl
        have m1 : (s.preds.length : Int) ≤ m := by omega
        clear hin2
        go_wp2_with fail
        go_roundw
        case rel => exact ⟨n + 1, by omega, by go_num, HIN, hbq.out⟩
        case measure => simp [intOf]; omega
    ·have t1 : (s.test == 1) = false := by simpa using ht
     have t2 : (s.test != 1) = true := by simpa using ht
     have hnm : nameB s = decide (s.name = []) := by unfold nameB; rw [if_neg ht]
     rw [hok, hnm] at hin'
     clear hok hnm ht
     by_cases hn0 : s.name = []
     ·obtain ⟨Q2, hQ2⟩ : ∃ Q2, Hid (s.preds.all predB = Q2) := ⟨_, rfl⟩
      rw [decide_eq_true hn0, Bool.true_and, hQ2.out] at hin'
      have HY3 : Hid (W1.cell? ⟨wr.heap.size, 3, none⟩ = some (.slice A' s.preds.length c')) := HY.out 3 _ rfl
      rw [hn0] at c2 hW1
      go_wp2_with fail
      rw [← hW1.out]
      clear c0 c1 c2 c3
      obtain ⟨q, hq⟩ : ∃ q, Hid (wr.heap.size = q) := ⟨_, rfl⟩
      have H3 : Hid (W1.cell? ⟨q, 3, none⟩ = some (.slice A' s.preds.length c')) := by show _ = _; rw [← hq.out]; exact HY3.out
      rw [hq.out]
      have HZ : q < W1.heap.size := by rw [← hq.out]; exact hz1
      go_loopw [5] (fun i wq => ∃ (m : Nat), m ≤ s.preds.length ∧ i = .int .i64 (m : Int) ∧ Hid ((s.preds.drop m).all predB = Q2) ∧ Hid (Below W1.heap.size W1 wq)) (fun i _ => s.preds.length - (intOf i).toNat)
      case atStart => exact ⟨0, Nat.zero_le _, by go_num, hQ2.out, Below.refl _ _⟩
      case round =>
       rename_i wq0 _
       obtain ⟨m, hml, rfl, hin2, hbq0⟩ := hrel
       have hbq : Hid (Below w.heap.size w wr) := HB1.out.trans (hbq0.out.mono HB1.out.size)
       have hc3 : wr.cell? ⟨q, 3, none⟩ = some (.slice A' s.preds.length c') := (hbq0.out.cell (p := ⟨q, 3, none⟩) HZ).trans H3.out
       have m0 : (0 : Int) ≤ (m : Int) := by omega
       by_cases hmt : m < s.preds.length
       ·obtain ⟨pd, rfl, _⟩ := HPA.out (by omega)
        obtain ⟨x, hx⟩ : ∃ x, Hid (s.preds[m]? = some x) := ⟨s.preds[m], List.getElem?_eq_getElem _⟩
        obtain ⟨pd', he', hpb, hpc'⟩ := HPA.out (by omega)
        injection he' with he'
        subst he'
        obtain ⟨p0, p1, p2, p3⟩ := hpc' m x hx.out
        have q0 := (hbq.out.cell (p := pd.add (m * 4)) (by rw [block_of_add]; exact hpb)).trans p0
        have q1 := (hbq.out.cell (p := ⟨(pd.add (m * 4)).block, (pd.add (m * 4)).off + 1, none⟩) (by show (pd.add _).block < _; rw [block_of_add]; exact hpb)).trans p1
        have q2 := (hbq.out.cell (p := ⟨(pd.add (m * 4)).block, (pd.add (m * 4)).off + 2, none⟩) (by show (pd.add _).block < _; rw [block_of_add]; exact hpb)).trans p2
        have q3 := (hbq.out.cell (p := ⟨(pd.add (m * 4)).block, (pd.add (m * 4)).off + 3, none⟩) (by show (pd.add _).block < _; rw [block_of_add]; exact hpb)).trans p3
        have m1 : (m : Int) < s.preds.length := by omega
        obtain ⟨v, hv⟩ : ∃ v, Hid (predB x = v) := ⟨_, rfl⟩
        have hin3 := hin2.out
        rw [drop_cons hx.out, List.all_cons, hv.out] at hin3
        clear p0 p1 p2 p3 hpc' hin2
        go_wp2_with fail
        refine (rright_any x _ (HSM.out x (List.mem_of_getElem? hx.out)) v hv).mono ?_
        rintro e w8 ⟨rfl, hb8⟩
        have hb9 : Hid (Below w.heap.size w w8) := hbq.out.trans (hb8.mono hbq.out.size)
        have hb10 : Hid (Below W1.heap.size W1 w8) := hbq0.out.trans (hb8.mono hbq0.out.size)
        clear q0 q1 q2 q3 hb8 hc3
        cases v with
        | false =>
         have HR : Hid (R = false) := by
          show _ = _
          rw [← HRQ.out, ← hin', ← hin3]; rfl
         go_wp2_with fail
         go_ret
         exact ⟨by rw [HR.out]; rfl, hb9.out⟩
        | true =>
         have HIN3 : Hid ((s.preds.drop (m + 1)).all predB = Q2) := by show _ = _; rw [← hin3]; rfl
         go_wp2_with fail
         go_roundw
         case rel => exact ⟨m + 1, by omega, by go_num, HIN3, hb10.out⟩
         case measure => simp [intOf]; omega
       ·have HQ2 : Hid (Q2 = true) := by
         show _ = _
         rw [← hin2.out, List.drop_eq_nil_of_le (by omega)]; rfl
        have HIN : Hid ((l.drop (n + 1)).all stepB = Q) := by show _ = _; rw [← hin', HQ2.out]; rfl
        have m1 : (s.preds.length : Int) ≤ m := by omega
        clear hin2
        go_wp2_with fail
        go_roundw
        case rel => exact ⟨n + 1, by omega, by go_num, HIN, hbq.out⟩
        case measure => simp [intOf]; omega
     ·have HQ : Hid (Q = false) := by show _ = _; rw [← hin', decide_eq_false hn0]; rfl
      have hne : s.name.isEmpty = false := by
       cases hs0 : s.name with
       | nil => exact absurd hs0 hn0
       | cons _ _ => rfl
      have HR : Hid (R = false) := by show _ = _; rw [← HRQ.out, HQ.out]; rfl
      clear hin'
      go_wp2_with fail
      go_ret
      exact ⟨by rw [HR.out]; rfl, hbelH.out.alloc hbelH.out.size _⟩
   ·have hok : headB s = false := by
     unfold headB
     rw [Bool.eq_false_iff]
     intro h
     simp only [Bool.and_eq_true, decide_eq_true_eq] at h
     exact h0 ⟨h.1.1.1, h.1.1.2, h.2⟩
    have HQ : Hid (Q = false) := by show _ = _; rw [← hin', hok]; rfl
    have HR : Hid (R = false) := by show _ = _; rw [← HRQ.out, HQ.out]; rfl
    have H0 := Lib.hid h0
    clear hin' h0 hok
    go_wp2_with fail
    all_goals first
     | (go_ret; exact ⟨by rw [HR.out]; rfl, hbelH.out.alloc hbelH.out.size _⟩)
     | (exfalso; have := H0.out; omega)
  ·have HQ : Hid (Q = true) := by
    show _ = _
    rw [← hin.out, List.drop_eq_nil_of_le (by omega)]; rfl
   have hRl : (decide (1 ≤ l.length ∧ l.length ≤ 20)) = R := by rw [← HRQ.out, HQ.out]; rfl
   have j1 : (l.length : Int) ≤ n := by omega
   clear hin
   by_cases h1 : 1 ≤ l.length
   ·by_cases h2 : l.length ≤ 20
    ·have HR : Hid (R = true) := by show _ = _; rw [← hRl]; simp; omega
     have k1 : (1 : Int) ≤ l.length := by omega
     have k2 : (l.length : Int) ≤ 20 := by omega
     clear hRl h1 h2
     go_wp2_with fail
     go_ret
     exact ⟨by rw [HR.out]; rfl, hbelH.out⟩
    ·have HR : Hid (R = false) := by show _ = _; rw [← hRl]; simp; omega
     have k1 : (1 : Int) ≤ l.length := by omega
     have k2 : decide ((l.length : Int) ≤ 20) = false := decide_eq_false (by omega)
     clear hRl h1 h2
     go_wp2_with fail
     go_ret
     exact ⟨by rw [HR.out]; rfl, hbelH.out⟩
   ·have HR : Hid (R = false) := by show _ = _; rw [← hRl]; simp; omega
    have k1 : (l.length : Int) < 1 := by omega
    clear hRl h1
    go_wp2_with fail
    go_ret
    exact ⟨by rw [HR.out]; rfl, hbelH.out⟩
end
section
open Go.RowKit Go.Shelf
theorem nodup_le : ∀ (N : Nat) (l : List Nat), l.Nodup → (∀ x ∈ l, x < N) → l.length ≤ N
 | 0, l, _, h => by
  cases l with
  | nil => simp
  | cons a r => have := h a List.mem_cons_self; omega
 | N + 1, l, hn, h => by
  by_cases hm : N ∈ l
  ·have h1 := nodup_le N (l.erase N) (hn.erase N) (fun x hx => by
    have h2 := h x (List.mem_of_mem_erase hx)
    have h3 := (hn.mem_erase_iff.1 hx).1
    omega)
   rw [List.length_erase_of_mem hm] at h1
   omega
  ·have h1 := nodup_le N l hn (fun x hx => by
    have h2 := h x hx
    have h3 : x ≠ N := fun e => hm (e ▸ hx)
    omega)
   omega
theorem joinN_app : ∀ (l a b : List Nat), joinN l (a ++ b) = joinN (joinN l a) b
 | l, [], b => rfl
 | l, x :: a, b => by rw [List.cons_append, joinN, joinN, joinN_app]
theorem joinN_nodup : ∀ (l r : List Nat), l.Nodup → (joinN l r).Nodup
 | l, [], h => h
 | l, x :: r, h => by
  rw [joinN]
  refine joinN_nodup _ r ?_
  split
  ·exact h
  ·rename_i hx
   rw [List.nodup_append]
   exact ⟨h, by simp, fun a ha b hb e => hx (by rw [List.mem_singleton.1 hb] at e; rw [← e]; exact ha)⟩
theorem nextN_app (L : List RowD) (s : StepD) : ∀ (acc a b : List Nat), nextN L s acc (a ++ b) = nextN L s (nextN L s acc a) b
 | acc, [], b => rfl
 | acc, k :: a, b => by rw [List.cons_append, nextN, nextN, nextN_app L s]
theorem nextN_nodup (L : List RowD) (s : StepD) : ∀ (acc a : List Nat), acc.Nodup → (nextN L s acc a).Nodup
 | acc, [], h => h
 | acc, k :: a, h => by rw [nextN]; exact nextN_nodup L s _ a (joinN_nodup _ _ h)
theorem stepN_lt (L : List RowD) (s : StepD) (k : Nat) : ∀ y ∈ stepN L s k, y < L.length := fun y hy => by
 rw [stepN_eq] at hy
 have := (List.mem_filter.1 (predsN_mem L _ _ y hy)).1
 unfold ordN at this
 split at this
 ·exact List.mem_range.1 (List.mem_reverse.1 this)
 ·exact List.mem_range.1 this
theorem stepN_len (L : List RowD) (s : StepD) (k : Nat) : (stepN L s k).length ≤ L.length := by
 rw [stepN_eq]
 have h1 := predsN_len L s.preds ((ordN s.axis L.length).filter (keepN L s k))
 have h2 := List.length_filter_le (keepN L s k) (ordN s.axis L.length)
 rw [ordN_len] at h2
 omega
theorem joinN_lt {N : Nat} {l r : List Nat} (h : ∀ y ∈ l, y < N) (h' : ∀ y ∈ r, y < N) : ∀ y ∈ joinN l r, y < N := fun y hy => by
 rcases (join_mem l r y).1 hy with hy | hy
 ·exact h y hy
 ·exact h' y hy
theorem nextN_lt (L : List RowD) (s : StepD) (acc F : List Nat) (h : ∀ y ∈ acc, y < L.length) : ∀ y ∈ nextN L s acc F, y < L.length := fun y hy => by
 rcases (next_mem L s F acc y).1 hy with hy | ⟨k, _, hy⟩
 ·exact h y hy
 ·exact stepN_lt L s k y hy
theorem foundN_app (L : List RowD) : ∀ (a b : List StepD) (F : List Nat), foundN L (a ++ b) F = foundN L b (foundN L a F)
 | [], _, _ => rfl
 | s :: a, b, F => by rw [List.cons_append, foundN, foundN, foundN_app L a b]
theorem foundN_ok (L : List RowD) : ∀ (a : List StepD) (F : List Nat), F.Nodup → (∀ y ∈ F, y < L.length) → (foundN L a F).Nodup ∧ ∀ y ∈ foundN L a F, y < L.length
 | [], F, h, h' => ⟨h, h'⟩
 | s :: a, F, h, h' => by rw [foundN]; exact foundN_ok L a _ (nextN_nodup L s [] F (by simp)) (nextN_lt L s [] F (by simp))
theorem ints_mem (l : List Nat) (x : Nat) : (x : Int) ∈ ints l ↔ x ∈ l := by
 unfold ints
 rw [List.mem_map]
 constructor
 ·rintro ⟨y, hy, e⟩; rw [← Int.ofNat_inj.1 e]; exact hy
 ·intro h; exact ⟨x, h, rfl⟩
theorem REval_any (L : List RowD) (A : Option Addr) (c : Nat) (next : Int) (w : World) (hT : TreeR (fun _ => True) w A c L) (hs : SmallRows (rowsL L)) (hlen : L.length ≤ 1000) (l : List StepD) (As : Option Addr) (cs : Nat) (hA : StepsAt w w.heap.size As l) (hss : SmallSteps l) :
  Calls Tryz.prog 14 #[.agg #[.slice A L.length c, .int .i64 next], .slice As l.length cs] w fun e w' => ∃ A' c', e = .returned (.tuple #[.slice A' (evalN L l).length c', .bool (rightL l)]) ∧ intRow w' (.slice A' (evalN L l).length c') (evalN L l) ∧ Below w.heap.size w w' := by
 have HT := Lib.hid hT
 have HS := Lib.hid hs
 have HA := Lib.hid hA
 have HSS := Lib.hid hss
 obtain ⟨R, hR⟩ : ∃ R, Hid (rightL l = R) := ⟨_, rfl⟩
 obtain ⟨w1, hw1⟩ : ∃ w1, Hid (w.alloc (.cells #[.slice A L.length c, .int .i64 next] 27) = w1) := ⟨_, rfl⟩
 have hb1 : Below w.heap.size w w1 := by rw [← hw1.out]; exact (Below.refl _ w).alloc (Nat.le_refl _) _
 have HX1 : Hid (w1.heap[w.heap.size]? = some (.cells #[.slice A L.length c, .int .i64 next] 27 (0, 0))) := by show _ = _; rw [← hw1.out]; exact heap_alloc_new w _
 have HB1 := Lib.hid hb1
 clear hT hs hA hss hb1
 cases R with
 | false =>
  have HE : Hid (evalN L l = []) := by show _ = _; unfold evalN; rw [hR.out]; rfl
  go_enter Tryz.func14, Tryz.ntmps14
  go_upto_region 1 with (fail)
  rw [hw1.out]
  go_wp2_with fail
  refine (RRight_any l As cs w1 ((HA.out.below HB1.out).more HB1.out.size) HSS.out false hR).mono ?_
  rintro e w2 ⟨rfl, hb2⟩
  go_wp2_with fail
  go_ret2
  rw [HE.out, hR.out]
  exact ⟨none, 0, rfl, ⟨by simp, .inl ⟨rfl, rfl⟩⟩, HB1.out.trans (hb2.mono HB1.out.size)⟩
 | true =>
  obtain ⟨hl20, hp5⟩ := right_preds hR.out
  have HP5 := Lib.hid hp5
  have HK : Hid (∀ s ∈ l, StepK s) := fun s hs => by
   have hr := hR.out
   unfold rightL at hr
   simp only [Bool.and_eq_true, List.all_eq_true] at hr
   have := hr.1 s hs
   unfold stepB at this
   simp only [Bool.and_eq_true, decide_eq_true_eq] at this
   exact ⟨this.1.1.1.1, this.1.1.1.2⟩
  clear hp5
  have l0 : (0 : Int) ≤ (l.length : Int) := by omega
  have l1 : (l.length : Int) ≤ 20 := by omega
  go_enter Tryz.func14, Tryz.ntmps14
  go_upto_region 1 with (fail)
  rw [hw1.out]
  go_wp2_with fail
  refine (RRight_any l As cs w1 ((HA.out.below HB1.out).more HB1.out.size) HSS.out true hR).mono ?_
  rintro e w2 ⟨rfl, hb2⟩
  have HB2 := Lib.hid (HB1.out.trans (hb2.mono HB1.out.size))
  have hx2 := (hb2.block _ (Array.getElem?_eq_some_iff.1 HX1.out).1).trans HX1.out
  have t0 : w2.cell? ⟨w.heap.size, 0, none⟩ = some (.slice A L.length c) := cell_row hx2 0 _ rfl
  have t1 : w2.cell? ⟨w.heap.size, 1, none⟩ = some (.int .i64 next) := cell_row hx2 1 _ rfl
  clear hb2 hx2
  go_wp2_with fail
  refine (rows8_any L A c next w2 (HT.out.below HB2.out) (by omega)).mono ?_
  rintro e w3 ⟨Ar, cr, rfl, htr, hb3⟩
  have HB3 := Lib.hid (HB2.out.trans (hb3.mono HB2.out.size))
  obtain ⟨N, hN⟩ : ∃ N, Hid ((rowsL L).length = N) := ⟨_, rfl⟩
  have hNl : N ≤ 1001 := by rw [← hN.out]; simp [rowsL]; omega
  have HN1 : Hid (1 ≤ N) := by show _ ≤ _; rw [← hN.out]; simp [rowsL]
  rw [hN.out]
  have N0 : (0 : Int) ≤ (N : Int) := by omega
  have N1 : (N : Int) ≤ 1001 := by omega
  have HTR := Lib.hid htr
  clear hb3 htr t0 t1
  go_wp2_with fail
  obtain ⟨w4, hw4⟩ : ∃ w4, Hid (w3.alloc (.cells #[.int .i64 0] 3) = w4) := ⟨_, rfl⟩
  have hb4 : Below w3.heap.size w3 w4 := by rw [← hw4.out]; exact (Below.refl _ w3).alloc (Nat.le_refl _) _
  have HB4 := Lib.hid (HB3.out.trans (hb4.mono HB3.out.size))
  have HR4 : Hid (intRow w4 (.slice (some ⟨w3.heap.size, 0, none⟩) (ints [0]).length 1) (ints [0])) := by show intRow _ _ _; rw [← hw4.out]; exact row_mk (heap_alloc_new w3 _) (Nat.le_refl _) (by decide) rfl rfl
  have HTR4 := Lib.hid (HTR.out.below hb4)
  obtain ⟨ad, hAd, _⟩ := HTR4.out.1 (by rw [hN.out]; have := HN1.out; omega)
  subst hAd
  rw [hw4.out]
  clear hb4
  go_loopw [7, 8] (fun o i wr => ∃ (q : Nat) (A5 : Option Addr) (c5 : Nat) (F : List Nat), q ≤ l.length ∧ i = .int .i64 (q : Int) ∧ o = .slice A5 (ints F).length c5 ∧ Hid (F = foundN (rowsL L) (l.take q) [0]) ∧ Hid (intRow wr (.slice A5 (ints F).length c5) (ints F)) ∧ Hid (Below w4.heap.size w4 wr)) (fun _ i _ => l.length - (intOf i).toNat)
  case atStart => exact ⟨0, _, 1, [0], Nat.zero_le _, rfl, rfl, rfl, HR4.out, Below.refl _ _⟩
  case round =>
   obtain ⟨q, A5, c5, F, hq, rfl, rfl, hF, hrow5, hb5⟩ := hrel
   have q0 : (0 : Int) ≤ (q : Int) := by omega
   obtain ⟨hFn, hFl⟩ := foundN_ok (rowsL L) (l.take q) [0] (by simp) (by simp [rowsL])
   rw [← hF.out] at hFn hFl
   have hFlen := nodup_le _ F hFn hFl
   rw [hN.out] at hFl hFlen
   have HFL := Lib.hid hFl
   obtain ⟨n5, hn5⟩ : ∃ n5, Hid ((ints F).length = n5) := ⟨_, rfl⟩
   have HN5 : Hid (n5 = F.length) := by show _ = _; rw [← hn5.out, ints_length]
   have hn5l : n5 ≤ N := by rw [HN5.out]; exact hFlen
   have y0 : (0 : Int) ≤ (n5 : Int) := by omega
   have y1 : (n5 : Int) ≤ 1001 := by omega
   have HROW5 := Lib.hid hrow5.out
   have HB5 := Lib.hid hb5.out
   obtain ⟨W5, hW5⟩ : ∃ W5, W5 = wr := ⟨_, rfl⟩
   subst hW5
   rw [hn5.out]
   clear hFn hFl hFlen hrow5 hb5
   by_cases hql : q < l.length
   ·have q1 : (q : Int) < (l.length : Int) := by omega
    obtain ⟨s, hs⟩ : ∃ s, Hid (l[q]? = some s) := ⟨l[q], List.getElem?_eq_getElem _⟩
    obtain ⟨sd, hsd, _⟩ := HA.out (by omega)
    subst hsd
    have HNXT : Hid (foundN (rowsL L) (l.take (q + 1)) [0] = nextN (rowsL L) s [] F) := by
     show _ = _
     rw [List.take_add_one, hs.out, Option.toList_some, foundN_app, ← hF.out]
     rfl
    have HW5 : Hid (Below w.heap.size w W5) := HB4.out.trans (HB5.out.mono HB4.out.size)
    go_wp2_with fail
    go_loopw [9, 10] (fun o i wr => ∃ (m : Nat) (A6 : Option Addr) (c6 : Nat) (G : List Nat), m ≤ n5 ∧ i = .int .i64 (m : Int) ∧ o = .slice A6 (ints G).length c6 ∧ Hid (G = nextN (rowsL L) s [] (F.take m)) ∧ Hid (intRow wr (.slice A6 (ints G).length c6) (ints G)) ∧
     Hid (∀ b, (Value.slice A6 (ints G).length c6).ownBlock = some b → W5.heap.size ≤ b) ∧ Hid (Below W5.heap.size W5 wr)) (fun _ i _ => n5 - (intOf i).toNat)
    case atStart => exact ⟨0, none, 0, [], Nat.zero_le _, rfl, rfl, rfl, ⟨by simp [ints], .inl ⟨rfl, rfl⟩⟩, fun b hb => by simp [Value.ownBlock] at hb, Below.refl _ _⟩
    case round =>
     obtain ⟨m, A6, c6, G, hm, rfl, rfl, hG, hrow6, hfr6, hb6⟩ := hrel
     have m0 : (0 : Int) ≤ (m : Int) := by omega
     by_cases hml : m < n5
     ·have m1 : (m : Int) < (n5 : Int) := by omega
      obtain ⟨x, hx⟩ : ∃ x, Hid (F[m]? = some x) := ⟨_, List.getElem?_eq_getElem (by rw [← HN5.out]; exact hml)⟩
      have HXL : Hid (x < N) := HFL.out x (List.mem_of_getElem? hx.out)
      have HGN : Hid (G.Nodup ∧ ∀ y ∈ G, y < (rowsL L).length) := by
       rw [hG.out]
       exact ⟨nextN_nodup _ _ _ _ (by simp), nextN_lt _ _ _ _ (by simp)⟩
      obtain ⟨g, hgA⟩ : ∃ g, A5 = some ⟨g, 0, none⟩ := by
       rcases HROW5.out.2 with ⟨_, h⟩ | ⟨g, cap, cur, h, _⟩
       ·rw [hn5.out] at h; omega
       ·injection h with h _ _; exact ⟨g, h⟩
      subst hgA
      obtain ⟨hsb, A', c', hpa, hpc, s0, s1, s2, s3⟩ := HA.out.item hs.out
      have HSV : Hid (∀ V : World, Below wr.heap.size wr V → (V.cell? (sd.add (q * 4)) = some (.int .i64 s.axis) ∧ V.cell? ⟨(sd.add (q * 4)).block, (sd.add (q * 4)).off + 1, none⟩ = some (.int .i64 s.test) ∧ V.cell? ⟨(sd.add (q * 4)).block, (sd.add (q * 4)).off + 2, none⟩ = some (.string ⟨s.name.toArray⟩) ∧ V.cell? ⟨(sd.add (q * 4)).block, (sd.add (q * 4)).off + 3, none⟩ = some (.slice A' s.preds.length c')) ∧ V.cell? ⟨g, m, none⟩ = some (.int .i64 (x : Int))) := fun V hV => by
       have h5 : Below W5.heap.size W5 V := hb6.out.trans (hV.mono hb6.out.size)
       have h0 : Below w.heap.size w V := HW5.out.trans (h5.mono HW5.out.size)
       have hc : ∀ o, V.cell? ⟨(sd.add (q * 4)).block, o, none⟩ = w.cell? ⟨(sd.add (q * 4)).block, o, none⟩ := fun o => h0.cell (by show (sd.add _).block < _; rw [block_of_add]; exact hsb)
       have hr : intRow V (.slice (some ⟨g, 0, none⟩) (ints F).length c5) (ints F) := row_block HROW5.out fun b hb => h5.block b (row_lt HROW5.out hb)
       exact ⟨⟨(h0.cell (by rw [block_of_add]; exact hsb)).trans s0, (hc _).trans s1, (hc _).trans s2, (hc _).trans s3⟩, own_cell hr m (.int .i64 (x : Int)) (by rw [List.getElem?_map, ints_get8 hx.out]; rfl)⟩
      have HPA := Lib.hid hpa
      have HP := HP5.out s (List.mem_of_getElem? hs.out)
      have HSK := (HK.out s (List.mem_of_getElem? hs.out)).1
      have HHP := Lib.hid (And.intro HP HSK)
      have hbd : Below wr.heap.size wr wr.drew := ⟨rfl, rfl, rfl, Nat.le_refl _, fun _ _ => rfl⟩
      have xx0 : (0 : Int) ≤ (x : Int) := by omega
      clear hpa hpc s0 s1 s2 s3 hsb HP HSK
      go_wp2_with fail
      refine wp_region_held_drew (S := fun V => (V.cell? (sd.add (q * 4)) = some (.int .i64 s.axis) ∧ V.cell? ⟨(sd.add (q * 4)).block, (sd.add (q * 4)).off + 1, none⟩ = some (.int .i64 s.test) ∧ V.cell? ⟨(sd.add (q * 4)).block, (sd.add (q * 4)).off + 2, none⟩ = some (.string ⟨s.name.toArray⟩) ∧ V.cell? ⟨(sd.add (q * 4)).block, (sd.add (q * 4)).off + 3, none⟩ = some (.slice A' s.preds.length c')) ∧ V.cell? ⟨g, m, none⟩ = some (.int .i64 (x : Int))) (by kernel_rfl) (HSV.out _ hbd) (fun hHeld => ?_)
      refine tkv 0 (h := tkv 1 (h := tkv 2 (h := tkv 3 (h := tkv 4 (h := tkv 5 (h := ?_))))))
      refine tkv 6 (h := tkv 7 (h := tkv 8 (h := ?_)))
      obtain ⟨v, hv⟩ : ∃ v, Hid (wr.drew = v) := ⟨_, rfl⟩
      rw [hv.out] at hbd hHeld ⊢
      have HBD := Lib.hid hbd
      have HBV : Hid (Below w4.heap.size w4 v) := HB5.out.trans ((hb6.out.trans (hbd.mono hb6.out.size)).mono HB5.out.size)
      have HBVW := Lib.hid (HB4.out.trans (HBV.out.mono HB4.out.size))
      clear hbd
      refine rdy 9 (fun K hK => ?_)
      go_simp
      have hst := step8_any (rowsL L) (some ad) cr s A' c' x v ((HTR4.out.1.below HBV.out).more HBV.out.size) HS.out (by rw [hN.out]; exact HXL.out) HHP.out.2 ((HPA.out.below HBVW.out).more HBVW.out.size) HHP.out.1
      rw [hN.out] at hst
      refine hst.mono ?_
      clear hst
      obtain ⟨r, hr⟩ : ∃ r, Hid (stepN (rowsL L) s x = r) := ⟨_, rfl⟩
      have HRL : Hid (r.length ≤ N ∧ ∀ y ∈ r, y < (rowsL L).length) := by
       rw [← hr.out, ← hN.out]
       exact ⟨stepN_len _ _ _, stepN_lt _ _ _⟩
      rw [hr.out]
      rintro e v2 ⟨A7, c7, rfl, hr7, hb7, hf7⟩
      have HBD2 := Lib.hid (HBD.out.trans (hb7.mono HBD.out.size))
      have HR7 := Lib.hid hr7
      obtain ⟨n7, hn7⟩ : ∃ n7, Hid ((ints r).length = n7) := ⟨_, rfl⟩
      have HN7 : Hid (n7 = r.length) := by show _ = _; rw [← hn7.out, ints_length]
      have u0 : (0 : Int) ≤ (n7 : Int) := by omega
      have u1 : (n7 : Int) ≤ 1001 := by have := HRL.out.1; have := HN7.out; omega
      have hgb : ∀ b, (Value.slice A6 (ints G).length c6).ownBlock = some b → (Value.slice A7 (ints r).length c7).ownBlock ≠ some b := fun b hb h => by
       have h1 := hf7 b h
       have h2 := row_lt hrow6.out hb
       have := HBD.out.size
       omega
      have HGB := Lib.hid hgb
      have HBW := Lib.hid (hb6.out.trans (HBD2.out.mono hb6.out.size))
      have HROW6 : Hid (intRow v2 (.slice A6 (ints G).length c6) (ints G)) := row_block hrow6.out fun b hb => HBD2.out.block b (row_lt hrow6.out hb)
      rw [hn7.out]
      rw [hn7.out] at HGB
      clear hr7 hb7 hf7 hgb
      refine hK.out _ _ (HSV.out _ HBD2.out) (fun hHeld => ?_)
      clear hK K
      try go_frame
      refine tkv 10 (h := ?_)
      refine wpAnyH_done (by kernel_rfl) ?_ _
      clear hHeld
      go_wp2_with fail
      go_loopw [9, 12] (fun o i wr => ∃ (v : Nat) (A8 : Option Addr) (c8 : Nat) (H : List Nat), v ≤ n7 ∧ i = .int .i64 (v : Int) ∧ o = .slice A8 (ints H).length c8 ∧ Hid (H = joinN G (r.take v)) ∧ Hid (intRow wr (.slice A8 (ints H).length c8) (ints H)) ∧
       Hid (∀ b, (Value.slice A8 (ints H).length c8).ownBlock = some b → W5.heap.size ≤ b) ∧ Hid (∀ b, (Value.slice A8 (ints H).length c8).ownBlock = some b → (Value.slice A7 n7 c7).ownBlock ≠ some b) ∧ Hid (intRow wr (.slice A7 (ints r).length c7) (ints r)) ∧ Hid (Below W5.heap.size W5 wr)) (fun _ i _ => n7 - (intOf i).toNat)
      case atStart => exact ⟨0, A6, c6, G, Nat.zero_le _, rfl, rfl, rfl, HROW6.out, hfr6.out, HGB.out, HR7.out, HBW.out⟩
      case round =>
       obtain ⟨u, A8, c8, H, hu, rfl, rfl, hH, hrow8, hfr8, hne8, hrow7, hb8⟩ := hrel
       have uu0 : (0 : Int) ≤ (u : Int) := by omega
       have HHN : Hid (H.Nodup ∧ ∀ y ∈ H, y < (rowsL L).length) := by
        rw [hH.out]
        exact ⟨joinN_nodup _ _ HGN.out.1, joinN_lt HGN.out.2 fun y hy => HRL.out.2 y (List.mem_of_mem_take hy)⟩
       have hHl : (ints H).length ≤ 1001 := by
        rw [ints_length]
        have := nodup_le _ H HHN.out.1 HHN.out.2
        rw [hN.out] at this
        omega
       by_cases hul : u < n7
       ·have uu1 : (u : Int) < (n7 : Int) := by omega
        obtain ⟨y, hy⟩ : ∃ y, Hid (r[u]? = some y) := ⟨_, List.getElem?_eq_getElem (by rw [← HN7.out]; exact hul)⟩
        obtain ⟨g7, hgA⟩ : ∃ g, A7 = some ⟨g, 0, none⟩ := by
         rcases HR7.out.2 with ⟨_, h⟩ | ⟨g, cap, cur, h, _⟩
         ·rw [hn7.out] at h; omega
         ·injection h with h _ _; exact ⟨g, h⟩
        subst hgA
        have cy : wr.cell? ⟨g7, u, none⟩ = some (.int .i64 (y : Int)) := own_cell hrow7.out u (.int .i64 (y : Int)) (by rw [List.getElem?_map, ints_get8 hy.out]; rfl)
        obtain ⟨HS8, hHS8⟩ : ∃ b, Hid (decide ((y : Int) ∈ ints H) = b) := ⟨_, rfl⟩
        have HSN : Hid (joinN G (r.take (u + 1)) = if HS8 = true then H else H ++ [y]) := by
         show _ = _
         rw [List.take_add_one, hy.out, Option.toList_some, joinN_app, ← hH.out, joinN, joinN, ← hHS8.out]
         by_cases e : y ∈ H
         ·simp [ints_mem, e]
         ·simp [ints_mem, e]
        go_wp2_with fail
        refine (has8_any A8 c8 (ints H) (y : Int) wr hrow8.out (by omega) HS8 hHS8).mono ?_
        rintro e v3 ⟨rfl, hb9⟩
        have HB9 := Lib.hid hb9
        have HBW3 := Lib.hid (hb8.out.trans (hb9.mono hb8.out.size))
        have HR73 : Hid (intRow v3 (.slice (some ⟨g7, 0, none⟩) (ints r).length c7) (ints r)) := row_block hrow7.out fun b hb => hb9.block b (row_lt hrow7.out hb)
        have HR83 : Hid (intRow v3 (.slice A8 (ints H).length c8) (ints H)) := row_block hrow8.out fun b hb => hb9.block b (row_lt hrow8.out hb)
        have cy3 : v3.cell? ⟨g7, u, none⟩ = some (.int .i64 (y : Int)) := own_cell HR73.out u (.int .i64 (y : Int)) (by rw [List.getElem?_map, ints_get8 hy.out]; rfl)
        clear hb9 cy
        cases HS8 with
        | true =>
         have HN : Hid (H = joinN G (r.take (u + 1))) := by show _ = _; rw [HSN.out]; simp
         go_wp2_with fail
         go_roundw
         case rel => exact ⟨u + 1, A8, c8, H, by omega, by go_num, rfl, HN.out, HR83.out, hfr8.out, hne8.out, HR73.out, HBW3.out⟩
         case measure => simp [intOf]; omega
        | false =>
         have HN : Hid (H ++ [y] = joinN G (r.take (u + 1))) := by show _ = _; rw [HSN.out]; simp
         obtain ⟨pa, pn, pc, w9, hr9, hpn, hrow9, hg9, hf9⟩ := run_append_int HR83.out (by omega) (y : Int)
         have HB9' : Hid (Below W5.heap.size W5 w9) := ⟨hg9.os.trans HBW3.out.os, hg9.tape.trans HBW3.out.tape, hg9.output.trans HBW3.out.output, Nat.le_trans HBW3.out.size hg9.size, fun b hb => (hg9.block b (Nat.lt_of_lt_of_le hb HBW3.out.size) (fun h' => by have := hfr8.out b h'.symm; omega)).trans (HBW3.out.block b hb)⟩
         have hia : ints H ++ [(y : Int)] = ints (H ++ [y]) := by rw [ints_app8]; rfl
         have hpn' : pn = (ints (H ++ [y])).length := by rw [hpn, ints_length, ints_length, List.length_append]; rfl
         rw [hia] at hrow9
         subst hpn'
         have hfr9 : ∀ b, (Value.slice pa (ints (H ++ [y])).length pc).ownBlock = some b → W5.heap.size ≤ b := fun b hb => by
          rcases hf9 b hb with h' | h'
          ·exact hfr8.out b h'
          ·have := HBW3.out.size; omega
         have hne9 : ∀ b, (Value.slice pa (ints (H ++ [y])).length pc).ownBlock = some b → (Value.slice (some ⟨g7, 0, none⟩) n7 c7).ownBlock ≠ some b := fun b hb h => by
          rcases hf9 b hb with h' | h'
          ·exact hne8.out b h' h
          ·have := row_lt HR73.out (b := b) (by rw [hn7.out]; exact h)
           omega
         have HR79 : Hid (intRow w9 (.slice (some ⟨g7, 0, none⟩) (ints r).length c7) (ints r)) := row_block HR73.out fun b hb => hg9.block b (row_lt HR73.out hb) (fun e => hne8.out b e.symm (by rw [← hn7.out]; exact hb))
         have HR9 := Lib.hid hrow9
         have HF9 := Lib.hid hfr9
         have HE9 := Lib.hid hne9
         clear hrow9 hg9 hf9 hfr9 hne9 hpn hia
         go_wp2_with (at_builtin; refine wpList_append_runI _ rfl _ _ 32 rfl (.slice A8 (ints H).length c8) (.slice (some ⟨v3.heap.size, 0, none⟩) 1 1) (by simp [Act.eval]) (by simp [Act.eval]) hr9 ?_)
         go_roundw
         case rel => exact ⟨u + 1, pa, pc, H ++ [y], by omega, by go_num, rfl, HN.out, HR9.out, HF9.out, HE9.out, HR79.out, HB9'.out⟩
         case measure => simp [intOf]; omega
       ·have hum : u = n7 := by omega
        subst hum
        have HN : Hid (H = nextN (rowsL L) s [] (F.take (m + 1))) := by
         show _ = _
         rw [List.take_add_one, hx.out, Option.toList_some, nextN_app, ← hG.out, nextN, nextN, hr.out, hH.out, List.take_of_length_le (by have := HN7.out; omega)]
        go_wp2_with fail
        go_roundw
        case rel => exact ⟨m + 1, A8, c8, H, by omega, by go_num, rfl, HN.out, hrow8.out, hfr8.out, hb8.out⟩
        case measure => simp [intOf]; omega
     ·have hmm : m = n5 := by omega
      subst hmm
      have HN : Hid (G = foundN (rowsL L) (l.take (q + 1)) [0]) := by
       show _ = _
       rw [HNXT.out, hG.out, List.take_of_length_le (by have := HN5.out; omega)]
      have HBF : Hid (Below w4.heap.size w4 wr) := HB5.out.trans (hb6.out.mono HB5.out.size)
      go_wp2_with fail
      go_roundw
      case rel => exact ⟨q + 1, A6, c6, G, by omega, by go_num, rfl, HN.out, hrow6.out, HBF.out⟩
      case measure => simp [intOf]; omega
   ·have hqm : q = l.length := by omega
    subst hqm
    have hFe : F = foundN (rowsL L) l [0] := by rw [hF.out, List.take_length]
    have HEV : Hid (evalN L l = ((List.range' 1 (N - 1)).filter fun i => decide (i ∈ F)).map (idL (rowsL L))) := by
     show _ = _
     unfold evalN outN
     rw [hR.out, if_pos rfl, hN.out, ← hFe]
    clear hFe
    go_wp2_with fail
    go_loopw [13, 14] (fun o i wr => ∃ (m : Nat) (A9 : Option Addr) (c9 : Nat) (O : List Int), m ≤ N - 1 ∧ i = .int .i64 ((m : Int) + 1) ∧ o = .slice A9 O.length c9 ∧ Hid (O = ((List.range' 1 m).filter fun i => decide (i ∈ F)).map (idL (rowsL L))) ∧ Hid (intRow wr (.slice A9 O.length c9) O) ∧
     Hid (∀ b, (Value.slice A9 O.length c9).ownBlock = some b → W5.heap.size ≤ b) ∧ Hid (Below W5.heap.size W5 wr)) (fun _ i _ => N - (intOf i).toNat)
    case atStart => exact ⟨0, none, 0, [], Nat.zero_le _, rfl, rfl, rfl, ⟨by simp, .inl ⟨rfl, rfl⟩⟩, fun b hb => by simp [Value.ownBlock] at hb, Below.refl _ _⟩
    case round =>
     obtain ⟨m, A9, c9, O, hm, rfl, rfl, hO, hrow9, hfr9, hb9⟩ := hrel
     have m0 : (0 : Int) ≤ (m : Int) := by omega
     have hOl : O.length ≤ 1001 := by
      rw [hO.out, List.length_map]
      have := List.length_filter_le (fun i => decide (i ∈ F)) (List.range' 1 m)
      rw [List.length_range'] at this
      omega
     have hN1 := HN1.out
     by_cases hml : m + 1 < N
     ·have m1 : (m : Int) + 1 < (N : Int) := by omega
      obtain ⟨b0, hb0⟩ : ∃ b, Hid (decide ((m : Int) + 1 ∈ ints F) = b) := ⟨_, rfl⟩
      obtain ⟨z, hz⟩ : ∃ z, Hid ((rowsL L)[m + 1]? = some z) := ⟨_, List.getElem?_eq_getElem (by rw [hN.out]; exact hml)⟩
      have hid' : idL (rowsL L) (m + 1) = z.id := by unfold idL; rw [hz.out]
      have HSN : Hid (((List.range' 1 (m + 1)).filter fun i => decide (i ∈ F)).map (idL (rowsL L)) = O ++ if b0 = true then [z.id] else []) := by
       show _ = _
       rw [List.range'_concat, List.filter_append, List.map_append, ← hO.out, Nat.mul_comm, Nat.mul_one, Nat.add_comm 1 m, ← hb0.out]
       have hm1 : (m : Int) + 1 ∈ ints F ↔ m + 1 ∈ F := ints_mem F (m + 1)
       by_cases e : m + 1 ∈ F
       ·simp [hm1, e, hid']
       ·simp [hm1, e]
      have HROWF : Hid (intRow wr (.slice A5 (ints F).length c5) (ints F)) := row_block HROW5.out fun b hb => hb9.out.block b (row_lt HROW5.out hb)
      have hF5 : (ints F).length ≤ 1000000 := by rw [hn5.out]; omega
      clear hid'
      go_wp2_with fail
      have hhas := has8_any A5 c5 (ints F) ((m : Int) + 1) wr HROWF.out hF5 b0 hb0
      rw [hn5.out] at hhas
      refine hhas.mono ?_
      clear hhas
      rintro e v3 ⟨rfl, hb10⟩
      have HBW3 := Lib.hid (hb9.out.trans (hb10.mono hb9.out.size))
      have HR93 : Hid (intRow v3 (.slice A9 O.length c9) O) := row_block hrow9.out fun b hb => hb10.block b (row_lt hrow9.out hb)
      have HBV : Hid (Below w4.heap.size w4 v3) := HB5.out.trans (HBW3.out.mono HB5.out.size)
      clear hb10
      cases b0 with
      | false =>
       have HN : Hid (O = ((List.range' 1 (m + 1)).filter fun i => decide (i ∈ F)).map (idL (rowsL L))) := by show _ = _; rw [HSN.out]; simp
       go_wp2_with fail
       go_roundw
       case rel => exact ⟨m + 1, A9, c9, O, by omega, by go_num, rfl, HN.out, HR93.out, hfr9.out, HBW3.out⟩
       case measure => simp [intOf]; omega
      | true =>
       have HN : Hid (O ++ [z.id] = ((List.range' 1 (m + 1)).filter fun i => decide (i ∈ F)).map (idL (rowsL L))) := by show _ = _; rw [HSN.out]; simp
       obtain ⟨_, Az, cz, _, _, k0, _⟩ := (HTR4.out.1.below HBV.out).row hz.out
       have k0' : v3.cell? ⟨(ad.add ((m + 1) * 6)).block, (ad.add ((m + 1) * 6)).off, (ad.add ((m + 1) * 6)).spot⟩ = some (.int .i64 z.id) := k0
       obtain ⟨pa, pn, pc, w9, hr9, hpn, hrow10, hg9, hf9⟩ := run_append_int HR93.out (by omega) z.id
       subst hpn
       have HB10 : Hid (Below W5.heap.size W5 w9) := ⟨hg9.os.trans HBW3.out.os, hg9.tape.trans HBW3.out.tape, hg9.output.trans HBW3.out.output, Nat.le_trans HBW3.out.size hg9.size, fun b hb => (hg9.block b (Nat.lt_of_lt_of_le hb HBW3.out.size) (fun h' => by have := hfr9.out b h'.symm; omega)).trans (HBW3.out.block b hb)⟩
       have hfr10 : ∀ b, (Value.slice pa (O.length + 1) pc).ownBlock = some b → W5.heap.size ≤ b := fun b hb => by
        rcases hf9 b hb with h' | h'
        ·exact hfr9.out b h'
        ·have := HBW3.out.size; omega
       have HR10 := Lib.hid hrow10
       have HF10 := Lib.hid hfr10
       clear hrow10 hg9 hf9 hfr10 k0'
       go_wp2_with (at_builtin; refine wpList_append_runI _ rfl _ _ 32 rfl (.slice A9 O.length c9) (.slice (some ⟨v3.heap.size, 0, none⟩) 1 1) (by simp [Act.eval]) (by simp [Act.eval]) hr9 ?_)
       go_roundw
       case rel => exact ⟨m + 1, pa, pc, O ++ [z.id], by omega, by go_num, by simp, HN.out, by show intRow _ _ _; simpa using HR10.out, by show ∀ b, _; simpa using HF10.out, HB10.out⟩
       case measure => simp [intOf]; omega
     ·have hmm : m = N - 1 := by omega
      have HF : Hid (evalN L l = O) := by
       show _ = _
       rw [HEV.out, hO.out, hmm]
      have m1 : ¬ (m : Int) + 1 < (N : Int) := by omega
      have HBF : Hid (Below w.heap.size w wr) := HB4.out.trans ((HB5.out.trans (hb9.out.mono HB5.out.size)).mono HB4.out.size)
      go_wp2_with fail
      go_ret2
      rw [HF.out, hR.out]
      exact ⟨A9, c9, rfl, hrow9.out, HBF.out⟩
end
section
open Go.RowKit Go.Shelf
theorem rowsL_small {f : Fo} {next : Int} (h : InvF f next) : SmallRows (rowsL (f.flat 0)) := by
 obtain ⟨h1, h2⟩ := h.rows
 have := h.cnt
 refine ⟨by simp [rowsL, Fo.flat_len]; omega, fun r hr => ?_⟩
 rcases List.mem_cons.1 hr with rfl | hr
 ·exact ⟨⟨by decide, by decide⟩, by decide, by decide, by decide⟩
 ·exact h2 r hr
theorem walk_WalkerEvals (l : List ItemD) (A : Option Addr) (c : Nat) (s : List StepD) (As : Option Addr) (cs : Nat) (w : World) (hI : ItemsAt w w.heap.size A l) (hS : SmallItems l) (hl : l.length ≤ 2000000) (hA : StepsAt w w.heap.size As s) (hSs : SmallSteps s) :
  Calls Tryz.prog 3 #[.slice A l.length c, .slice As s.length cs] w (Ret w (.bool true)) := by
 have HI := Lib.hid hI
 have HS := Lib.hid hS
 have HA := Lib.hid hA
 have HSS := Lib.hid hSs
 have hs9 := hSs.1
 have n0 : (0 : Int) ≤ (s.length : Int) := by omega
 have n1 : (s.length : Int) ≤ 1000000000 := by omega
 clear hI hS hA hSs
 go_enter Tryz.func3, Tryz.ntmps3
 go_wp2_with fail
 refine (grown_any l A c w HI.out HS.out hl).mono ?_
 rintro e w1 ⟨M, t, f, next, Ar, cr, rfl, ht1, hr1, hf1, hb1, hlo1⟩
 have HT1 := Lib.hid ht1
 have HR1 := Lib.hid hr1
 have HB1 := Lib.hid hb1
 clear ht1 hr1 hf1 hb1 hlo1
 go_upto_region 2 with (fail)
 obtain ⟨w2, hw2⟩ : ∃ w2, Hid (w1.alloc (.cells #[.slice Ar (f.flat 0).length cr, .int .i64 next] 27) = w2) := ⟨_, rfl⟩
 have hb2 : Below w1.heap.size w1 w2 := by rw [← hw2.out]; exact (Below.refl _ w1).alloc (Nat.le_refl _) _
 have HX2 : Hid (w2.heap[w1.heap.size]? = some (.cells (treeV Ar (f.flat 0).length cr next) 27 (0, 0))) := by show _ = _; rw [← hw2.out]; exact heap_alloc_new w1 _
 have HT2 := Lib.hid (HT1.out.below hb2)
 have HR2 := Lib.hid (HR1.out.below hb2)
 have HB2 := Lib.hid (HB1.out.trans (hb2.mono HB1.out.size))
 obtain ⟨rb, hrb⟩ : ∃ rb, Hid (w1.heap.size = rb) := ⟨_, rfl⟩
 rw [hrb.out] at HX2 ⊢
 rw [hw2.out]
 clear hb2
 go_wp2_with fail
 by_cases h40 : (l.length : Int) ≤ 40
 ·refine (small_any A l.length c w2 true (decide_eq_true h40)).mono ?_
  rintro e w3 ⟨rfl, hb3⟩
  have HB3 := Lib.hid (HB2.out.trans (hb3.mono HB2.out.size))
  have HT3 := Lib.hid (HT2.out.below hb3)
  have HR3 := Lib.hid (HR2.out.below hb3)
  have HX3 : Hid (w3.heap[rb]? = some (.cells (treeV Ar (f.flat 0).length cr next) 27 (0, 0))) := (hb3.block _ (Array.getElem?_eq_some_iff.1 HX2.out).1).trans HX2.out
  clear hb3
  by_cases h30 : (30 : Int) < s.length
  ·go_wp2_with fail
   refine (aliveW_any w3).mono ?_
   rintro e w4 ⟨rfl, hb4⟩
   have HB4 := Lib.hid (HB3.out.trans (hb4.mono HB3.out.size))
   clear hb4
   go_wp2_with fail
   go_ret
   exact ⟨rfl, HB4.out⟩
  go_upto_region 4 with (fail)
  clear h30 h40
  go_wp2_with fail
  refine (Eval_any HT3.out s As cs ((HA.out.below HB3.out).more HB3.out.size) HSS.out).mono ?_
  rintro e w4 ⟨Aa, ca, rfl, hra, hb4, _⟩
  have HRA := Lib.hid hra
  have HB4 := Lib.hid (HB3.out.trans (hb4.mono HB3.out.size))
  have HIN := Lib.hid HT3.out.inv
  have HR4 := Lib.hid (HR3.out.below hb4)
  have hx4 := (hb4.block _ (Array.getElem?_eq_some_iff.1 HX3.out).1).trans HX3.out
  have y0 : w4.cell? ⟨rb, 0, none⟩ = some (.slice Ar (f.flat 0).length cr) := cell_row hx4 0 _ rfl
  have y1 : w4.cell? ⟨rb, 1, none⟩ = some (.int .i64 next) := cell_row hx4 1 _ rfl
  obtain ⟨rs, hrs⟩ : ∃ rs, Hid (rightL s = rs) := ⟨_, rfl⟩
  obtain ⟨ea, hea⟩ : ∃ ea, Hid (evalW f s = ea) := ⟨_, rfl⟩
  rw [hea.out] at HRA
  rw [hrs.out, hea.out]
  clear hra hb4 hx4
  go_wp2_with fail
  refine (REval_any (f.flat 0) Ar cr next w4 HR4.out (rowsL_small HIN.out) (by rw [Fo.flat_len]; exact HIN.out.cnt) s As cs ((HA.out.below HB4.out).more HB4.out.size) HSS.out).mono ?_
  rintro e w5 ⟨Ab, cb, rfl, hrb5, hb5⟩
  rw [eval_at HIN.out, hea.out] at hrb5
  rw [eval_at HIN.out, hea.out, hrs.out]
  have HRB5 := Lib.hid hrb5
  have HB5 := Lib.hid (HB4.out.trans (hb5.mono HB4.out.size))
  have HRA5 : Hid (intRow w5 (.slice Aa ea.length ca) ea) := row_block HRA.out fun b hb => hb5.block b (row_lt HRA.out hb)
  clear hrb5 hb5 y0 y1
  go_wp2_with fail
  refine (aliveW_any w5).mono ?_
  rintro e v1 ⟨rfl, hc1⟩
  have HC1 := Lib.hid hc1
  have HD1 := Lib.hid (HB5.out.trans (hc1.mono HB5.out.size))
  clear hc1
  go_wp2_with fail
  refine (SameIds_any _ _ ea ea v1 (row_block HRA5.out fun b hb => HC1.out.block b (row_lt HRA5.out hb)) (row_block HRB5.out fun b hb => HC1.out.block b (row_lt HRB5.out hb)) true (decide_eq_true rfl)).mono ?_
  rintro e v2 ⟨rfl, hc2⟩
  have HD2 := Lib.hid (HD1.out.trans (hc2.mono HD1.out.size))
  clear hc2
  go_wp2_with fail
  go_ret
  exact ⟨rfl, HD2.out⟩
 ·refine (small_any A l.length c w2 false (decide_eq_false h40)).mono ?_
  rintro e w3 ⟨rfl, hb3⟩
  have HB3 := Lib.hid (HB2.out.trans (hb3.mono HB2.out.size))
  have HT3 := Lib.hid (HT2.out.below hb3)
  have HR3 := Lib.hid (HR2.out.below hb3)
  have HX3 : Hid (w3.heap[rb]? = some (.cells (treeV Ar (f.flat 0).length cr next) 27 (0, 0))) := (hb3.block _ (Array.getElem?_eq_some_iff.1 HX2.out).1).trans HX2.out
  clear hb3
  go_wp2_with fail
  refine (aliveW_any w3).mono ?_
  rintro e w4 ⟨rfl, hb4⟩
  have HB4 := Lib.hid (HB3.out.trans (hb4.mono HB3.out.size))
  clear hb4
  go_wp2_with fail
  go_ret
  exact ⟨rfl, HB4.out⟩
end
section
open Go.RowKit Go.ChangeShapes Go.WideShapes Go.Deep
theorem add_more (ad : Addr) (a j : Nat) (hj : j ≠ 0) : ad.add (a + j) = ⟨(ad.add a).block, (ad.add a).off + j, none⟩ := by
 rw [← add_of_add]
 generalize ad.add a = b
 unfold Addr.add
 rw [if_neg hj]
theorem slice_structs {H : Type} {enc : TypeId × Value → H} {P : Program} {w : World} {t e : TypeId} {fs : Array Field} {fuel : Nat} {cs : List Value} {x : DataW H × List MemPlace} (ht : P.underlying t = some (.slice e)) (he : P.underlying e = some (.struct fs))
  (h1 : oneCellFields P fs = true) (h2 : P.cellsOf e = fs.size) (h : DataW.trod enc P w 0 (fun _ => true) true fuel t cs = some x) :
  (cs = [.slice none 0 0] ∧ x.1 = .nil) ∨
  ∃ (a : Addr) (len cap : Nat) (D : Nat → DataW H) (rest : List (DataW H)), cs = [.slice (some a) len cap] ∧ len ≤ cap ∧ cap ≤ maxLen ∧ x.1 = .slice ((List.range len).map D) rest ∧
   ∀ i, i < len → ∃ (ys : List (DataW H × List MemPlace)) (n : Nat), D i = .agg (ys.map (·.1)) ∧ ys.length = fs.size ∧
    ∀ (j : Nat) (f : Field), fs[j]? = some f → ∃ v y, w.cell? (a.add (i * fs.size + j)) = some v ∧ ys[j]? = some y ∧ DataW.trod enc P w 0 (fun _ => true) true n f.type [v] = some y := by
 rcases open_slice ht h with ⟨e1, e2⟩ | ⟨a, len, cap, m, n, D, Pl, e1, _, k1, k2, k3, e2, each⟩
 ·exact .inl ⟨e1, by rw [e2]⟩
 ·right
  have hm : m = cap := by simpa using k3
  refine ⟨a, len, cap, D, _, e1, k1, k2, by rw [e2], fun i hi => ?_⟩
  obtain ⟨row, hrow, hread⟩ := each i (by omega)
  obtain ⟨_, hl, hat⟩ := World.cells?_some hrow
  obtain ⟨ys, n', _, hy, _, hyl, hfield⟩ := DataW.trod_struct he hread
  refine ⟨ys, n', by rw [Prod.mk.injEq] at hy; exact hy.1, hyl, fun j f hj => ?_⟩
  have hjs : j < fs.size := (Array.getElem?_eq_some_iff.1 hj).1
  obtain ⟨o1, o2⟩ := hone_of h1 j f hj
  have hjr : j < row.length := by rw [hl, h2]; exact hjs
  have hv := hat j (by rw [h2]; exact hjs)
  have hone : (row.drop f.offset).take (P.cellsOf f.type) = [row[j]] := by rw [o1, o2, List.drop_eq_getElem_cons hjr]; rfl
  have hr := hfield j f hj
  rw [hone] at hr
  have hys : ys[j]? = some (ys[j]'(by omega)) := List.getElem?_eq_getElem _
  refine ⟨row[j], _, ?_, hys, hr.trans hys⟩
  rw [h2, add_of_add, List.getElem?_eq_getElem hjr] at hv
  exact hv
theorem list_of {α : Type} {P : Nat → α → Prop} : ∀ (n : Nat), (∀ i, i < n → ∃ x, P i x) → ∃ l : List α, l.length = n ∧ ∀ i x, l[i]? = some x → P i x
 | 0, _ => ⟨[], rfl, fun _ _ h => by simp at h⟩
 | n + 1, h => by
  obtain ⟨l, hl, hp⟩ := list_of n (fun i hi => h i (by omega))
  obtain ⟨x, hx⟩ := h n (by omega)
  refine ⟨l ++ [x], by simp [hl], fun i y hy => ?_⟩
  by_cases hi : i < l.length
  ·rw [List.getElem?_append_left hi] at hy; exact hp i y hy
  ·rw [List.getElem?_append_right (by omega)] at hy
   have : i - l.length = 0 := by
    have := (List.getElem?_eq_some_iff.1 hy).1
    simp at this; omega
   rw [this] at hy
   simp at hy; subst hy
   rw [show i = n by omega]; exact hx
theorem bulkAll_range {H : Type} (D : Nat → DataW H) : ∀ n i, i < n → Rows.uptoBulk (D i) ≤ Rows.uptoBulkAll ((List.range n).map D) := by
 have app : ∀ (a b : List (DataW H)), Rows.uptoBulkAll (a ++ b) = Rows.uptoBulkAll a + Rows.uptoBulkAll b := by
  intro a b
  induction a with
  | nil => simp [Rows.uptoBulkAll]
  | cons x a ih => simp only [List.cons_append, Rows.uptoBulkAll, ih]; omega
 intro n
 induction n with
 | zero => intro i h; omega
 | succ n ih =>
  intro i h
  rw [List.range_succ, List.map_append, app]
  by_cases hi : i < n
  ·have := ih i hi; omega
  ·have : i = n := by omega
   subst this
   simp [Rows.uptoBulkAll]
theorem bulkAll_sum {H α : Type} (f : α → Nat) (D : Nat → DataW H) : ∀ (l : List α), (∀ i x, l[i]? = some x → f x ≤ Rows.uptoBulk (D i)) → (l.map f).sum ≤ Rows.uptoBulkAll ((List.range l.length).map D) := by
 have app : ∀ (a b : List (DataW H)), Rows.uptoBulkAll (a ++ b) = Rows.uptoBulkAll a + Rows.uptoBulkAll b := by
  intro a b
  induction a with
  | nil => simp [Rows.uptoBulkAll]
  | cons x a ih => simp only [List.cons_append, Rows.uptoBulkAll, ih]; omega
 have key : ∀ (n : Nat) (l : List α), l.length = n → (∀ i x, l[i]? = some x → f x ≤ Rows.uptoBulk (D i)) → (l.map f).sum ≤ Rows.uptoBulkAll ((List.range n).map D) := by
  intro n
  induction n with
  | zero => intro l hl _; rw [List.eq_nil_of_length_eq_zero hl]; simp
  | succ n ih =>
   intro l hl h
   have hne : l ≠ [] := fun e => by rw [e] at hl; cases hl
   rw [← List.dropLast_concat_getLast hne, List.map_append, List.sum_append, List.range_succ, List.map_append, app]
   have h1 := ih l.dropLast (by simp [hl]) (fun i x hx => h i x (by
    have hi := (List.getElem?_eq_some_iff.1 hx).1
    rw [List.getElem?_dropLast] at hx
    split at hx
    ·exact hx
    ·cases hx))
   have h2 := h n (l.getLast hne) (by rw [List.getLast_eq_getElem, ← List.getElem?_eq_getElem, hl]; rfl)
   simp only [List.map_cons, List.map_nil, List.sum_cons, List.sum_nil, Rows.uptoBulkAll]
   omega
 intro l h
 exact key l.length l rfl h
theorem sum_ones {α : Type} (l : List α) : (l.map (fun _ => 1)).sum = l.length := by
 induction l with
 | nil => rfl
 | cons x l ih => rw [List.map_cons, List.sum_cons, ih, List.length_cons]; omega
end
section
open Go.RowKit Go.ChangeShapes Go.WideShapes Go.Deep
theorem open_attrs {W : World} {H : Type} {enc : TypeId × Value → H} {fuel : Nat} {cs : List Value} {x : DataW H × List MemPlace} (h : DataW.trod enc Tryz.prog W 0 (fun _ => true) true fuel 47 cs = some x) :
  ∃ (A : Option Addr) (c : Nat) (l : List AttrD), cs = [.slice A l.length c] ∧ AttrsAt W W.heap.size A l ∧ l.length ≤ c ∧ (A = none → c = 0) ∧ l.length ≤ Rows.uptoBulk x.1 ∧ (∀ a ∈ l, a.name.length + a.value.length ≤ Rows.uptoBulk x.1) := by
 rcases slice_structs Tryz.underlying47 Tryz.underlying77 (by kernel_rfl) (by kernel_rfl) h with ⟨rfl, hx⟩ | ⟨a, len, cap, D, rest, rfl, hlc, hcm, hx, hf⟩
 ·exact ⟨none, 0, [], rfl, fun h => absurd h (by simp), Nat.le_refl _, fun _ => rfl, by simp, by simp⟩
 ·rw [hx]
  obtain ⟨l, hl, hp⟩ := list_of (P := fun i (y : AttrD) => W.cell? (a.add (i * 2)) = some (strV y.name) ∧ W.cell? ⟨(a.add (i * 2)).block, (a.add (i * 2)).off + 1, none⟩ = some (strV y.value) ∧ y.name.length + y.value.length + 1 ≤ Rows.uptoBulk (D i)) len (fun i hi => by
   obtain ⟨ys, n, hD, hyl, hj⟩ := hf i hi
   obtain ⟨v0, y0, hc0, hy0, ht0⟩ := hj 0 _ rfl
   obtain ⟨v1, y1, hc1, hy1, ht1⟩ := hj 1 _ rfl
   obtain ⟨s0, e0, rfl, _⟩ := DataW.trod_string Tryz.underlying9 ht0
   obtain ⟨s1, e1, rfl, _⟩ := DataW.trod_string Tryz.underlying9 ht1
   injection e0 with e0 _; subst e0
   injection e1 with e1 _; subst e1
   refine ⟨⟨s0.data.toList, s1.data.toList⟩, ?_, ?_, ?_⟩
   ·rw [Nat.add_zero] at hc0
    rw [show i * 2 = i * (_ : Nat) from rfl]; exact hc0
   ·rw [add_more _ _ _ (by decide)] at hc1; exact hc1
   ·rw [hD]
    match ys, hyl, hy0, hy1 with
    | [z0, z1], _, hy0, hy1 =>
     simp at hy0 hy1
     subst hy0; subst hy1
     simp [Rows.uptoBulk, Rows.uptoBulkAll]
     omega)
  refine ⟨some a, cap, l, by rw [hl], ?_, by omega, (fun h => by cases h), ?_, ?_⟩
  ·intro hpos
   have h0 : l[0]? = some (l[0]'hpos) := List.getElem?_eq_getElem hpos
   have hb := World.block_lt_of_cell? W _ (hp 0 _ h0).1
   rw [block_of_add] at hb
   exact ⟨a, rfl, hb, fun k y hy => ⟨(hp k y hy).1, (hp k y hy).2.1⟩⟩
  ·have := bulkAll_sum (fun _ : AttrD => 1) D l (fun i y hy => by have := (hp i y hy).2.2; omega)
   rw [hl] at this
   simp only [Rows.uptoBulk]
   have e := sum_ones l
   omega
  ·intro y hy
   obtain ⟨k, hk⟩ := List.mem_iff_getElem?.1 hy
   have h1 := (hp k y hk).2.2
   have h2 := bulkAll_range D len k (by rw [← hl]; exact (List.getElem?_eq_some_iff.1 hk).1)
   simp only [Rows.uptoBulk]
   omega
def NilAt (w : World) (A : Option Addr) (l : List ItemD) : Prop := ∀ ad, A = some ad → ∀ k x A' c', l[k]? = some x → w.cell? ⟨(ad.add (k * 5)).block, (ad.add (k * 5)).off + 4, none⟩ = some (.slice A' x.attrs.length c') → A' = none → c' = 0
theorem open_items {W : World} {H : Type} {enc : TypeId × Value → H} {v : Value} {d : DataW H} {p : List MemPlace} (hok : ∃ a n c, v = .slice a n c) (h : DataW.Trod enc Tryz.prog W 0 (fun _ => true) true 22 v d p) (hbulk : Rows.uptoBulk d ≤ 1048576) :
  ∃ (A : Option Addr) (c : Nat) (l : List ItemD), v = .slice A l.length c ∧ ItemsAt W W.heap.size A l ∧ SmallDoc l ∧ l.length ≤ 1048576 ∧ textSum l ≤ 1048576 ∧ NilAt W A l := by
 obtain ⟨va, vn, vc, rfl⟩ := hok
 obtain ⟨fuel, h⟩ := h
 rcases slice_structs Tryz.underlying22 Tryz.underlying75 (by kernel_rfl) (by kernel_rfl) h with ⟨e, e2⟩ | ⟨a, len, cap, D, rest, e, hlc, hcm, e2, hf⟩
 ·injection e with e _
  injection e with e1 e2' e3
  subst e1; subst e2'; subst e3
  refine ⟨none, 0, [], rfl, fun h => absurd h (by simp), ⟨⟨by simp, fun _ _ h => by simp at h⟩, by simp [textSum]⟩, by simp, by simp [textSum], fun _ h => by cases h⟩
 ·injection e with e _
  injection e with e1 e2' e3
  subst e1
  have e2'' := e2'.symm
  have e3'' := e3.symm
  subst e2''; subst e3''
  have e2 : d = .slice ((List.range len).map D) rest := e2
  subst e2
  obtain ⟨l, hl, hp⟩ := list_of (P := fun i (x : ItemD) => ∃ (A' : Option Addr) (c' : Nat), AttrsAt W W.heap.size A' x.attrs ∧ x.attrs.length ≤ c' ∧ W.cell? (a.add (i * 5)) = some (.int .i64 x.level) ∧ W.cell? ⟨(a.add (i * 5)).block, (a.add (i * 5)).off + 1, none⟩ = some (.int .i64 x.kind) ∧
    W.cell? ⟨(a.add (i * 5)).block, (a.add (i * 5)).off + 2, none⟩ = some (strV x.name) ∧ W.cell? ⟨(a.add (i * 5)).block, (a.add (i * 5)).off + 3, none⟩ = some (strV x.text) ∧ W.cell? ⟨(a.add (i * 5)).block, (a.add (i * 5)).off + 4, none⟩ = some (.slice A' x.attrs.length c') ∧
    (-9223372036854775808 ≤ x.level ∧ x.level ≤ 9223372036854775807) ∧ x.name.length + x.text.length + x.attrs.length + 1 ≤ Rows.uptoBulk (D i) ∧ (∀ y ∈ x.attrs, y.name.length + y.value.length ≤ Rows.uptoBulk (D i)) ∧ (A' = none → c' = 0)) len (fun i hi => by
   obtain ⟨ys, n, hD, hyl, hj⟩ := hf i hi
   obtain ⟨v0, y0, hc0, hy0, ht0⟩ := hj 0 _ rfl
   obtain ⟨v1, y1, hc1, hy1, ht1⟩ := hj 1 _ rfl
   obtain ⟨v2, y2, hc2, hy2, ht2⟩ := hj 2 _ rfl
   obtain ⟨v3, y3, hc3, hy3, ht3⟩ := hj 3 _ rfl
   obtain ⟨v4, y4, hc4, hy4, ht4⟩ := hj 4 _ rfl
   obtain ⟨n0, e0, rfl, w0⟩ := DataW.trod_int Tryz.underlying3 ht0
   obtain ⟨n1, e1, rfl, _⟩ := DataW.trod_int Tryz.underlying3 ht1
   obtain ⟨s2, e2, rfl, _⟩ := DataW.trod_string Tryz.underlying9 ht2
   obtain ⟨s3, e3, rfl, _⟩ := DataW.trod_string Tryz.underlying9 ht3
   obtain ⟨A', c', la, e4, hat, hlc', hnil, hb1, hb2⟩ := open_attrs ht4
   injection e0 with e0 _; subst e0
   injection e1 with e1 _; subst e1
   injection e2 with e2 _; subst e2
   injection e3 with e3 _; subst e3
   injection e4 with e4 _; subst e4
   rw [add_more _ _ _ (by decide)] at hc1 hc2 hc3 hc4
   rw [Nat.add_zero] at hc0
   refine ⟨⟨n0, n1, s2.data.toList, s3.data.toList, la⟩, A', c', hat, hlc', hc0, hc1, hc2, hc3, hc4, ?_, ?_, ?_, hnil⟩
   ·simp [Lit.wf, IntKind.min, IntKind.max, IntKind.signed, IntKind.bits] at w0
    show -9223372036854775808 ≤ n0 ∧ n0 ≤ 9223372036854775807
    exact ⟨by omega, by omega⟩
   ·rw [hD]
    match ys, hyl, hy0, hy1, hy2, hy3, hy4 with
    | [z0, z1, z2, z3, z4], _, hy0, hy1, hy2, hy3, hy4 =>
     simp at hy0 hy1 hy2 hy3 hy4
     subst hy0; subst hy1; subst hy2; subst hy3; subst hy4
     simp [Rows.uptoBulk, Rows.uptoBulkAll]
     omega
   ·intro y hy
    rw [hD]
    have := hb2 y hy
    match ys, hyl, hy0, hy1, hy2, hy3, hy4 with
    | [z0, z1, z2, z3, z4], _, hy0, hy1, hy2, hy3, hy4 =>
     simp at hy0 hy1 hy2 hy3 hy4
     subst hy0; subst hy1; subst hy2; subst hy3; subst hy4
     simp [Rows.uptoBulk, Rows.uptoBulkAll]
     omega)
  simp only [Rows.uptoBulk] at hbulk
  have hone : ∀ k, k < len → Rows.uptoBulk (D k) ≤ 1048576 := fun k hk => by have := bulkAll_range D len k hk; omega
  have hcount := bulkAll_sum (fun _ : ItemD => 1) D l (fun i y hy => by obtain ⟨_, _, _, _, _, _, _, _, _, _, h, _⟩ := hp i y hy; omega)
  have htext := bulkAll_sum (fun x : ItemD => x.text.length) D l (fun i y hy => by obtain ⟨_, _, _, _, _, _, _, _, _, _, h, _⟩ := hp i y hy; omega)
  have e := sum_ones l
  rw [hl] at hcount htext
  have hl2 : l.length ≤ 1048576 := by omega
  have ht2 : textSum l ≤ 1048576 := by unfold textSum; omega
  refine ⟨some a, cap, l, by rw [hl], ?_, ⟨⟨by omega, fun k x hx => ?_⟩, by omega⟩, hl2, ht2, ?_⟩
  ·intro hpos
   have h0 : l[0]? = some (l[0]'hpos) := List.getElem?_eq_getElem hpos
   obtain ⟨_, _, _, _, hc0, _⟩ := hp 0 _ h0
   have hb := World.block_lt_of_cell? W _ hc0
   rw [block_of_add] at hb
   refine ⟨a, rfl, hb, fun k x hx => ?_⟩
   obtain ⟨A', c', k1, k2, k3, k4, k5, k6, k7, _⟩ := hp k x hx
   exact ⟨A', c', k1, k2, k3, k4, k5, k6, k7⟩
  ·obtain ⟨A', c', k1, k2, k3, k4, k5, k6, k7, k8, k9, k10⟩ := hp k x hx
   have hk := hone k (by rw [← hl]; exact (List.getElem?_eq_some_iff.1 hx).1)
   exact ⟨by omega, by omega, by omega, fun j y hy => by have := k10.1 y (List.mem_of_getElem? hy); omega, k8⟩
  ·intro ad had k x A2 c2 hx hcell hA2
   injection had with had
   subst had
   obtain ⟨A', c', k1, k2, k3, k4, k5, k6, k7, k8, k9, k10⟩ := hp k x hx
   rw [k7] at hcell
   injection hcell with hcell
   injection hcell with q1 _ q3
   rw [← q3]
   exact k10.2 (by rw [q1]; exact hA2)
end
section
open Go.RowKit Go.ChangeShapes Go.WideShapes Go.Deep
def weightP (p : PredD) : Nat := p.name.length + p.value.length + 1
def weightS (s : StepD) : Nat := s.name.length + (s.preds.map weightP).sum + 1
theorem open_preds {W : World} {H : Type} {enc : TypeId × Value → H} {fuel : Nat} {cs : List Value} {x : DataW H × List MemPlace} (h : DataW.trod enc Tryz.prog W 0 (fun _ => true) true fuel 43 cs = some x) :
  ∃ (A : Option Addr) (c : Nat) (l : List PredD), cs = [.slice A l.length c] ∧ PredsAt W W.heap.size A l ∧ l.length ≤ c ∧ (l.map weightP).sum ≤ Rows.uptoBulk x.1 ∧ (∀ p ∈ l, p.num ≤ 9223372036854775807 ∧ -9223372036854775808 ≤ p.num ∧ p.kind ≤ 9223372036854775807 ∧ -9223372036854775808 ≤ p.kind) := by
 rcases slice_structs Tryz.underlying43 Tryz.underlying102 (by kernel_rfl) (by kernel_rfl) h with ⟨rfl, hx⟩ | ⟨a, len, cap, D, rest, rfl, hlc, hcm, hx, hf⟩
 ·exact ⟨none, 0, [], rfl, fun h => absurd h (by simp), Nat.le_refl _, by simp, by simp⟩
 ·rw [hx]
  obtain ⟨l, hl, hp⟩ := list_of (P := fun i (y : PredD) => (W.cell? (a.add (i * 4)) = some (.int .i64 y.kind) ∧ W.cell? ⟨(a.add (i * 4)).block, (a.add (i * 4)).off + 1, none⟩ = some (.int .i64 y.num) ∧
    W.cell? ⟨(a.add (i * 4)).block, (a.add (i * 4)).off + 2, none⟩ = some (.string ⟨y.name.toArray⟩) ∧ W.cell? ⟨(a.add (i * 4)).block, (a.add (i * 4)).off + 3, none⟩ = some (.string ⟨y.value.toArray⟩)) ∧
    weightP y ≤ Rows.uptoBulk (D i) ∧ (y.num ≤ 9223372036854775807 ∧ -9223372036854775808 ≤ y.num ∧ y.kind ≤ 9223372036854775807 ∧ -9223372036854775808 ≤ y.kind)) len (fun i hi => by
   obtain ⟨ys, n, hD, hyl, hj⟩ := hf i hi
   obtain ⟨v0, y0, hc0, hy0, ht0⟩ := hj 0 _ rfl
   obtain ⟨v1, y1, hc1, hy1, ht1⟩ := hj 1 _ rfl
   obtain ⟨v2, y2, hc2, hy2, ht2⟩ := hj 2 _ rfl
   obtain ⟨v3, y3, hc3, hy3, ht3⟩ := hj 3 _ rfl
   obtain ⟨n0, e0, rfl, w0⟩ := DataW.trod_int Tryz.underlying3 ht0
   obtain ⟨n1, e1, rfl, w1⟩ := DataW.trod_int Tryz.underlying3 ht1
   obtain ⟨s2, e2, rfl, _⟩ := DataW.trod_string Tryz.underlying9 ht2
   obtain ⟨s3, e3, rfl, _⟩ := DataW.trod_string Tryz.underlying9 ht3
   injection e0 with e0 _; subst e0
   injection e1 with e1 _; subst e1
   injection e2 with e2 _; subst e2
   injection e3 with e3 _; subst e3
   rw [add_more _ _ _ (by decide)] at hc1 hc2 hc3
   rw [Nat.add_zero] at hc0
   refine ⟨⟨n0, n1, s2.data.toList, s3.data.toList⟩, ⟨hc0, hc1, hc2, hc3⟩, ?_, ?_⟩
   ·rw [hD]
    match ys, hyl, hy0, hy1, hy2, hy3 with
    | [z0, z1, z2, z3], _, hy0, hy1, hy2, hy3 =>
     simp at hy0 hy1 hy2 hy3
     subst hy0; subst hy1; subst hy2; subst hy3
     simp [Rows.uptoBulk, Rows.uptoBulkAll, weightP]
     omega
   ·simp [Lit.wf, IntKind.min, IntKind.max, IntKind.signed, IntKind.bits] at w0 w1
    show n1 ≤ 9223372036854775807 ∧ -9223372036854775808 ≤ n1 ∧ n0 ≤ 9223372036854775807 ∧ -9223372036854775808 ≤ n0
    exact ⟨by omega, by omega, by omega, by omega⟩)
  refine ⟨some a, cap, l, by rw [hl], ?_, by omega, ?_, fun p hpm => ?_⟩
  ·intro hpos
   have h0 : l[0]? = some (l[0]'hpos) := List.getElem?_eq_getElem hpos
   have hb := World.block_lt_of_cell? W _ (hp 0 _ h0).1.1
   rw [block_of_add] at hb
   exact ⟨a, rfl, hb, fun k y hy => (hp k y hy).1⟩
  ·have := bulkAll_sum weightP D l (fun i y hy => (hp i y hy).2.1)
   rw [hl] at this
   simp only [Rows.uptoBulk]
   omega
  ·obtain ⟨k, hk⟩ := List.mem_iff_getElem?.1 hpm
   exact (hp k p hk).2.2
theorem open_steps {W : World} {H : Type} {enc : TypeId × Value → H} {v : Value} {d : DataW H} {p : List MemPlace} (hok : ∃ a n c, v = .slice a n c) (h : DataW.Trod enc Tryz.prog W 0 (fun _ => true) true 23 v d p) :
  ∃ (A : Option Addr) (c : Nat) (l : List StepD), v = .slice A l.length c ∧ StepsAt W W.heap.size A l ∧ (l.map weightS).sum ≤ Rows.uptoBulk d ∧ (∀ s ∈ l, ∀ p ∈ s.preds, p.num ≤ 9223372036854775807) := by
 obtain ⟨va, vn, vc, rfl⟩ := hok
 obtain ⟨fuel, h⟩ := h
 rcases slice_structs Tryz.underlying23 Tryz.underlying45 (by kernel_rfl) (by kernel_rfl) h with ⟨e, e2⟩ | ⟨a, len, cap, D, rest, e, hlc, hcm, e2, hf⟩
 ·injection e with e _
  injection e with e1 e2' e3
  subst e1; subst e2'; subst e3
  exact ⟨none, 0, [], rfl, fun h => absurd h (by simp), by simp, by simp⟩
 ·injection e with e _
  injection e with e1 e2' e3
  subst e1
  have e2'' := e2'.symm
  have e3'' := e3.symm
  subst e2''; subst e3''
  have e2 : d = .slice ((List.range len).map D) rest := e2
  subst e2
  obtain ⟨l, hl, hp⟩ := list_of (P := fun i (s : StepD) => (∃ A' c, PredsAt W W.heap.size A' s.preds ∧ s.preds.length ≤ c ∧
    W.cell? (a.add (i * 4)) = some (.int .i64 s.axis) ∧ W.cell? ⟨(a.add (i * 4)).block, (a.add (i * 4)).off + 1, none⟩ = some (.int .i64 s.test) ∧
    W.cell? ⟨(a.add (i * 4)).block, (a.add (i * 4)).off + 2, none⟩ = some (.string ⟨s.name.toArray⟩) ∧ W.cell? ⟨(a.add (i * 4)).block, (a.add (i * 4)).off + 3, none⟩ = some (.slice A' s.preds.length c)) ∧
    weightS s ≤ Rows.uptoBulk (D i) ∧ ∀ p ∈ s.preds, p.num ≤ 9223372036854775807) len (fun i hi => by
   obtain ⟨ys, n, hD, hyl, hj⟩ := hf i hi
   obtain ⟨v0, y0, hc0, hy0, ht0⟩ := hj 0 _ rfl
   obtain ⟨v1, y1, hc1, hy1, ht1⟩ := hj 1 _ rfl
   obtain ⟨v2, y2, hc2, hy2, ht2⟩ := hj 2 _ rfl
   obtain ⟨v3, y3, hc3, hy3, ht3⟩ := hj 3 _ rfl
   obtain ⟨n0, e0, rfl, w0⟩ := DataW.trod_int Tryz.underlying3 ht0
   obtain ⟨n1, e1, rfl, w1⟩ := DataW.trod_int Tryz.underlying3 ht1
   obtain ⟨s2, e2, rfl, _⟩ := DataW.trod_string Tryz.underlying9 ht2
   obtain ⟨A', c', la, e3, hat, hlc', hb1, hb2⟩ := open_preds ht3
   injection e0 with e0 _; subst e0
   injection e1 with e1 _; subst e1
   injection e2 with e2 _; subst e2
   injection e3 with e3 _; subst e3
   rw [add_more _ _ _ (by decide)] at hc1 hc2 hc3
   rw [Nat.add_zero] at hc0
   refine ⟨⟨n0, n1, s2.data.toList, la⟩, ⟨A', c', hat, hlc', hc0, hc1, hc2, hc3⟩, ?_, fun p hp => (hb2 p hp).1⟩
   rw [hD]
   match ys, hyl, hy0, hy1, hy2, hy3 with
   | [z0, z1, z2, z3], _, hy0, hy1, hy2, hy3 =>
    simp at hy0 hy1 hy2 hy3
    subst hy0; subst hy1; subst hy2; subst hy3
    simp [Rows.uptoBulk, Rows.uptoBulkAll, weightS]
    omega)
  refine ⟨some a, cap, l, by rw [hl], ?_, ?_, fun s hs => ?_⟩
  ·intro hpos
   have h0 : l[0]? = some (l[0]'hpos) := List.getElem?_eq_getElem hpos
   obtain ⟨⟨_, _, _, _, hc0, _⟩, _⟩ := hp 0 _ h0
   have hb := World.block_lt_of_cell? W _ hc0
   rw [block_of_add] at hb
   exact ⟨a, rfl, hb, fun k s hs => (hp k s hs).1⟩
  ·have := bulkAll_sum weightS D l (fun i y hy => (hp i y hy).2.1)
   rw [hl] at this
   simp only [Rows.uptoBulk]
   omega
  ·obtain ⟨k, hk⟩ := List.mem_iff_getElem?.1 hs
   exact (hp k s hk).2.2
theorem sum_mem {α : Type} (f : α → Nat) : ∀ (l : List α) (x : α), x ∈ l → f x ≤ (l.map f).sum
 | [], _, h => by cases h
 | y :: l, x, h => by
  rw [List.map_cons, List.sum_cons]
  rcases List.mem_cons.1 h with rfl | h
  ·omega
  ·have := sum_mem f l x h; omega
theorem sum_len {α : Type} (f : α → Nat) (hf : ∀ x, 1 ≤ f x) : ∀ (l : List α), l.length ≤ (l.map f).sum
 | [] => by simp
 | y :: l => by
  rw [List.map_cons, List.sum_cons, List.length_cons]
  have := sum_len f hf l
  have := hf y
  omega
theorem step_smallW {s : StepD} (h : weightS s ≤ 1048576) : SmallStep s := by
 have h3 := sum_len weightP (fun x => by unfold weightP; omega) s.preds
 have h2b : weightS s = s.name.length + (s.preds.map weightP).sum + 1 := rfl
 refine ⟨by omega, by omega, fun p hp => ?_⟩
 have h4 := sum_mem weightP s.preds p hp
 have h5 : weightP p = p.name.length + p.value.length + 1 := rfl
 exact ⟨by omega, by omega⟩
theorem open_stepsW {W : World} {H : Type} {enc : TypeId × Value → H} {v : Value} {d : DataW H} {p : List MemPlace} (hok : ∃ a n c, v = .slice a n c) (h : DataW.Trod enc Tryz.prog W 0 (fun _ => true) true 23 v d p) (hbulk : Rows.uptoBulk d ≤ 1048576) :
  ∃ (A : Option Addr) (c : Nat) (l : List StepD), v = .slice A l.length c ∧ StepsAt W W.heap.size A l ∧ SmallSteps l ∧ l.length ≤ 1048576 := by
 obtain ⟨A, c, l, e, hI, hw, _⟩ := open_steps hok h
 have h1 := sum_len weightS (fun x => by unfold weightS; omega) l
 exact ⟨A, c, l, e, hI, ⟨by omega, fun s hs => step_smallW (by have := sum_mem weightS l s hs; omega)⟩, by omega⟩
end
end Go.Proofs.YtcombcoilpmnkaaGreat

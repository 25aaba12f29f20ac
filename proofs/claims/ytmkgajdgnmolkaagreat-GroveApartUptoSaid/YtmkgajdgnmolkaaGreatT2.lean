/-
  Texts of this claim, joined (by a program of the claim's author): Start, Part, Name, Names, OwnS, OwnA, GTree, GRange, GRead, GKid, GBelow, GIter.
-/
import Derived.Test.YtmkgajdgnmolkaaGreatT1
import Derived.Laws.OwnMore
import Derived.Laws.StructEq
import Derived.RangeFuncNested
import Derived.RangeFuncBound
import Derived.RangeFuncCalls
import Derived.RangeFuncLeaves
import Derived.Shelf.Abstract
import Derived.Shelf.RegionOpen
import Derived.OwnWalkIn
import Derived.TacticsInMore
import Derived.LoopNIn
import Derived.LoopIn
import Derived.Deep.QuietTactic
import Derived.BigQuiet
namespace Go.Proofs.YtmkgajdgnmolkaaGreat
set_option maxRecDepth 100000
set_option maxHeartbeats 16000000
section
open Go.RowKit
theorem Start_any (c : Int) (w : World) :
  Calls Tryz.prog 97 #[.int .i32 c] w (Ret w (.bool (startB c))) := by
 have q0 := st_0
 have q1 := st_1
 have q2 := st_2
 have q3 := st_3
 have q4 := st_4
 have q5 := st_5
 have q6 := st_6
 have q7 := st_7
 have q8 := st_8
 have q9 := st_9
 have q10 := st_10
 have q11 := st_11
 have q12 := st_12
 have q13 := st_13
 have q14 := st_14
 go_enter Tryz.func97, Tryz.ntmps97
 go_wp2_with fail
 refine (starts_any _).mono ?_; rintro e w0 ⟨rfl, hb0⟩
 have hz0 := hb0.size
 go_wp2_with fail
 refine wp_loop_rounds 16 ?_
 rw [rounds_succ]
 by_cases h0 : 65 ≤ c ∧ c ≤ 90
 ·have H0 : Hid ((decide ((65 : Int) ≤ c) && decide (c ≤ 90)) = true) := by show _ = _; simp [h0]
  have hv : Hid (startB c = true) := by show _ = _; unfold startB; simp; omega
  clear h0
  go_wp2_with fail
  refine (has_any 65 90 _ _ true H0).mono ?_; rintro e w1 ⟨rfl, hb1⟩
  have hz1 := hb1.size
  simp only [World.size_alloc] at hz1
  go_wp2_with fail
  go_ret
  exact ⟨by rw [hv.out]; rfl, (((hb0).alloc (by omega) _).trans (hb1.mono (by first | omega | (simp; done) | (simp; omega))))⟩
 have H0 : Hid ((decide ((65 : Int) ≤ c) && decide (c ≤ 90)) = false) := by show _ = _; simp; omega
 go_wp2_with fail
 refine (has_any 65 90 _ _ false H0).mono ?_; rintro e w1 ⟨rfl, hb1⟩
 have hz1 := hb1.size
 simp only [World.size_alloc] at hz1
 go_wp2_with fail
 rw [rounds_succ]
 by_cases h1 : 95 ≤ c ∧ c ≤ 95
 ·have H1 : Hid ((decide ((95 : Int) ≤ c) && decide (c ≤ 95)) = true) := by show _ = _; simp [h1]
  have hv : Hid (startB c = true) := by show _ = _; unfold startB; simp; omega
  clear h1
  go_wp2_with fail
  refine (has_any 95 95 _ _ true H1).mono ?_; rintro e w2 ⟨rfl, hb2⟩
  have hz2 := hb2.size
  simp only [World.size_alloc] at hz2
  go_wp2_with fail
  go_ret
  exact ⟨by rw [hv.out]; rfl, ((((((hb0).alloc (by omega) _).trans (hb1.mono (by first | omega | (simp; done) | (simp; omega))))).alloc (by omega) _).trans (hb2.mono (by first | omega | (simp; done) | (simp; omega))))⟩
 have H1 : Hid ((decide ((95 : Int) ≤ c) && decide (c ≤ 95)) = false) := by show _ = _; simp; omega
 go_wp2_with fail
 refine (has_any 95 95 _ _ false H1).mono ?_; rintro e w2 ⟨rfl, hb2⟩
 have hz2 := hb2.size
 simp only [World.size_alloc] at hz2
 go_wp2_with fail
 rw [rounds_succ]
 by_cases h2 : 97 ≤ c ∧ c ≤ 122
 ·have H2 : Hid ((decide ((97 : Int) ≤ c) && decide (c ≤ 122)) = true) := by show _ = _; simp [h2]
  have hv : Hid (startB c = true) := by show _ = _; unfold startB; simp; omega
  clear h2
  go_wp2_with fail
  refine (has_any 97 122 _ _ true H2).mono ?_; rintro e w3 ⟨rfl, hb3⟩
  have hz3 := hb3.size
  simp only [World.size_alloc] at hz3
  go_wp2_with fail
  go_ret
  exact ⟨by rw [hv.out]; rfl, (((((((((hb0).alloc (by omega) _).trans (hb1.mono (by first | omega | (simp; done) | (simp; omega))))).alloc (by omega) _).trans (hb2.mono (by first | omega | (simp; done) | (simp; omega))))).alloc (by omega) _).trans (hb3.mono (by first | omega | (simp; done) | (simp; omega))))⟩
 have H2 : Hid ((decide ((97 : Int) ≤ c) && decide (c ≤ 122)) = false) := by show _ = _; simp; omega
 go_wp2_with fail
 refine (has_any 97 122 _ _ false H2).mono ?_; rintro e w3 ⟨rfl, hb3⟩
 have hz3 := hb3.size
 simp only [World.size_alloc] at hz3
 go_wp2_with fail
 rw [rounds_succ]
 by_cases h3 : 192 ≤ c ∧ c ≤ 214
 ·have H3 : Hid ((decide ((192 : Int) ≤ c) && decide (c ≤ 214)) = true) := by show _ = _; simp [h3]
  have hv : Hid (startB c = true) := by show _ = _; unfold startB; simp; omega
  clear h3
  go_wp2_with fail
  refine (has_any 192 214 _ _ true H3).mono ?_; rintro e w4 ⟨rfl, hb4⟩
  have hz4 := hb4.size
  simp only [World.size_alloc] at hz4
  go_wp2_with fail
  go_ret
  exact ⟨by rw [hv.out]; rfl, ((((((((((((hb0).alloc (by omega) _).trans (hb1.mono (by first | omega | (simp; done) | (simp; omega))))).alloc (by omega) _).trans (hb2.mono (by first | omega | (simp; done) | (simp; omega))))).alloc (by omega) _).trans (hb3.mono (by first | omega | (simp; done) | (simp; omega))))).alloc (by omega) _).trans (hb4.mono (by first | omega | (simp; done) | (simp; omega))))⟩
 have H3 : Hid ((decide ((192 : Int) ≤ c) && decide (c ≤ 214)) = false) := by show _ = _; simp; omega
 go_wp2_with fail
 refine (has_any 192 214 _ _ false H3).mono ?_; rintro e w4 ⟨rfl, hb4⟩
 have hz4 := hb4.size
 simp only [World.size_alloc] at hz4
 go_wp2_with fail
 rw [rounds_succ]
 by_cases h4 : 216 ≤ c ∧ c ≤ 246
 ·have H4 : Hid ((decide ((216 : Int) ≤ c) && decide (c ≤ 246)) = true) := by show _ = _; simp [h4]
  have hv : Hid (startB c = true) := by show _ = _; unfold startB; simp; omega
  clear h4
  go_wp2_with fail
  refine (has_any 216 246 _ _ true H4).mono ?_; rintro e w5 ⟨rfl, hb5⟩
  have hz5 := hb5.size
  simp only [World.size_alloc] at hz5
  go_wp2_with fail
  go_ret
  exact ⟨by rw [hv.out]; rfl, (((((((((((((((hb0).alloc (by omega) _).trans (hb1.mono (by first | omega | (simp; done) | (simp; omega))))).alloc (by omega) _).trans (hb2.mono (by first | omega | (simp; done) | (simp; omega))))).alloc (by omega) _).trans (hb3.mono (by first | omega | (simp; done) | (simp; omega))))).alloc (by omega) _).trans (hb4.mono (by first | omega | (simp; done) | (simp; omega))))).alloc (by omega) _).trans (hb5.mono (by first | omega | (simp; done) | (simp; omega))))⟩
 have H4 : Hid ((decide ((216 : Int) ≤ c) && decide (c ≤ 246)) = false) := by show _ = _; simp; omega
 go_wp2_with fail
 refine (has_any 216 246 _ _ false H4).mono ?_; rintro e w5 ⟨rfl, hb5⟩
 have hz5 := hb5.size
 simp only [World.size_alloc] at hz5
 go_wp2_with fail
 rw [rounds_succ]
 by_cases h5 : 248 ≤ c ∧ c ≤ 767
 ·have H5 : Hid ((decide ((248 : Int) ≤ c) && decide (c ≤ 767)) = true) := by show _ = _; simp [h5]
  have hv : Hid (startB c = true) := by show _ = _; unfold startB; simp; omega
  clear h5
  go_wp2_with fail
  refine (has_any 248 767 _ _ true H5).mono ?_; rintro e w6 ⟨rfl, hb6⟩
  have hz6 := hb6.size
  simp only [World.size_alloc] at hz6
  go_wp2_with fail
  go_ret
  exact ⟨by rw [hv.out]; rfl, ((((((((((((((((((hb0).alloc (by omega) _).trans (hb1.mono (by first | omega | (simp; done) | (simp; omega))))).alloc (by omega) _).trans (hb2.mono (by first | omega | (simp; done) | (simp; omega))))).alloc (by omega) _).trans (hb3.mono (by first | omega | (simp; done) | (simp; omega))))).alloc (by omega) _).trans (hb4.mono (by first | omega | (simp; done) | (simp; omega))))).alloc (by omega) _).trans (hb5.mono (by first | omega | (simp; done) | (simp; omega))))).alloc (by omega) _).trans (hb6.mono (by first | omega | (simp; done) | (simp; omega))))⟩
 have H5 : Hid ((decide ((248 : Int) ≤ c) && decide (c ≤ 767)) = false) := by show _ = _; simp; omega
 go_wp2_with fail
 refine (has_any 248 767 _ _ false H5).mono ?_; rintro e w6 ⟨rfl, hb6⟩
 have hz6 := hb6.size
 simp only [World.size_alloc] at hz6
 go_wp2_with fail
 rw [rounds_succ]
 by_cases h6 : 880 ≤ c ∧ c ≤ 893
 ·have H6 : Hid ((decide ((880 : Int) ≤ c) && decide (c ≤ 893)) = true) := by show _ = _; simp [h6]
  have hv : Hid (startB c = true) := by show _ = _; unfold startB; simp; omega
  clear h6
  go_wp2_with fail
  refine (has_any 880 893 _ _ true H6).mono ?_; rintro e w7 ⟨rfl, hb7⟩
  have hz7 := hb7.size
  simp only [World.size_alloc] at hz7
  go_wp2_with fail
  go_ret
  exact ⟨by rw [hv.out]; rfl, (((((((((((((((((((((hb0).alloc (by omega) _).trans (hb1.mono (by first | omega | (simp; done) | (simp; omega))))).alloc (by omega) _).trans (hb2.mono (by first | omega | (simp; done) | (simp; omega))))).alloc (by omega) _).trans (hb3.mono (by first | omega | (simp; done) | (simp; omega))))).alloc (by omega) _).trans (hb4.mono (by first | omega | (simp; done) | (simp; omega))))).alloc (by omega) _).trans (hb5.mono (by first | omega | (simp; done) | (simp; omega))))).alloc (by omega) _).trans (hb6.mono (by first | omega | (simp; done) | (simp; omega))))).alloc (by omega) _).trans (hb7.mono (by first | omega | (simp; done) | (simp; omega))))⟩
 have H6 : Hid ((decide ((880 : Int) ≤ c) && decide (c ≤ 893)) = false) := by show _ = _; simp; omega
 go_wp2_with fail
 refine (has_any 880 893 _ _ false H6).mono ?_; rintro e w7 ⟨rfl, hb7⟩
 have hz7 := hb7.size
 simp only [World.size_alloc] at hz7
 go_wp2_with fail
 rw [rounds_succ]
 by_cases h7 : 895 ≤ c ∧ c ≤ 8191
 ·have H7 : Hid ((decide ((895 : Int) ≤ c) && decide (c ≤ 8191)) = true) := by show _ = _; simp [h7]
  have hv : Hid (startB c = true) := by show _ = _; unfold startB; simp; omega
  clear h7
  go_wp2_with fail
  refine (has_any 895 8191 _ _ true H7).mono ?_; rintro e w8 ⟨rfl, hb8⟩
  have hz8 := hb8.size
  simp only [World.size_alloc] at hz8
  go_wp2_with fail
  go_ret
  exact ⟨by rw [hv.out]; rfl, ((((((((((((((((((((((((hb0).alloc (by omega) _).trans (hb1.mono (by first | omega | (simp; done) | (simp; omega))))).alloc (by omega) _).trans (hb2.mono (by first | omega | (simp; done) | (simp; omega))))).alloc (by omega) _).trans (hb3.mono (by first | omega | (simp; done) | (simp; omega))))).alloc (by omega) _).trans (hb4.mono (by first | omega | (simp; done) | (simp; omega))))).alloc (by omega) _).trans (hb5.mono (by first | omega | (simp; done) | (simp; omega))))).alloc (by omega) _).trans (hb6.mono (by first | omega | (simp; done) | (simp; omega))))).alloc (by omega) _).trans (hb7.mono (by first | omega | (simp; done) | (simp; omega))))).alloc (by omega) _).trans (hb8.mono (by first | omega | (simp; done) | (simp; omega))))⟩
 have H7 : Hid ((decide ((895 : Int) ≤ c) && decide (c ≤ 8191)) = false) := by show _ = _; simp; omega
 go_wp2_with fail
 refine (has_any 895 8191 _ _ false H7).mono ?_; rintro e w8 ⟨rfl, hb8⟩
 have hz8 := hb8.size
 simp only [World.size_alloc] at hz8
 go_wp2_with fail
 rw [rounds_succ]
 by_cases h8 : 8204 ≤ c ∧ c ≤ 8205
 ·have H8 : Hid ((decide ((8204 : Int) ≤ c) && decide (c ≤ 8205)) = true) := by show _ = _; simp [h8]
  have hv : Hid (startB c = true) := by show _ = _; unfold startB; simp; omega
  clear h8
  go_wp2_with fail
  refine (has_any 8204 8205 _ _ true H8).mono ?_; rintro e w9 ⟨rfl, hb9⟩
  have hz9 := hb9.size
  simp only [World.size_alloc] at hz9
  go_wp2_with fail
  go_ret
  exact ⟨by rw [hv.out]; rfl, (((((((((((((((((((((((((((hb0).alloc (by omega) _).trans (hb1.mono (by first | omega | (simp; done) | (simp; omega))))).alloc (by omega) _).trans (hb2.mono (by first | omega | (simp; done) | (simp; omega))))).alloc (by omega) _).trans (hb3.mono (by first | omega | (simp; done) | (simp; omega))))).alloc (by omega) _).trans (hb4.mono (by first | omega | (simp; done) | (simp; omega))))).alloc (by omega) _).trans (hb5.mono (by first | omega | (simp; done) | (simp; omega))))).alloc (by omega) _).trans (hb6.mono (by first | omega | (simp; done) | (simp; omega))))).alloc (by omega) _).trans (hb7.mono (by first | omega | (simp; done) | (simp; omega))))).alloc (by omega) _).trans (hb8.mono (by first | omega | (simp; done) | (simp; omega))))).alloc (by omega) _).trans (hb9.mono (by first | omega | (simp; done) | (simp; omega))))⟩
 have H8 : Hid ((decide ((8204 : Int) ≤ c) && decide (c ≤ 8205)) = false) := by show _ = _; simp; omega
 go_wp2_with fail
 refine (has_any 8204 8205 _ _ false H8).mono ?_; rintro e w9 ⟨rfl, hb9⟩
 have hz9 := hb9.size
 simp only [World.size_alloc] at hz9
 go_wp2_with fail
 rw [rounds_succ]
 by_cases h9 : 8304 ≤ c ∧ c ≤ 8591
 ·have H9 : Hid ((decide ((8304 : Int) ≤ c) && decide (c ≤ 8591)) = true) := by show _ = _; simp [h9]
  have hv : Hid (startB c = true) := by show _ = _; unfold startB; simp; omega
  clear h9
  go_wp2_with fail
  refine (has_any 8304 8591 _ _ true H9).mono ?_; rintro e w10 ⟨rfl, hb10⟩
  have hz10 := hb10.size
  simp only [World.size_alloc] at hz10
  go_wp2_with fail
  go_ret
  exact ⟨by rw [hv.out]; rfl, ((((((((((((((((((((((((((((((hb0).alloc (by omega) _).trans (hb1.mono (by first | omega | (simp; done) | (simp; omega))))).alloc (by omega) _).trans (hb2.mono (by first | omega | (simp; done) | (simp; omega))))).alloc (by omega) _).trans (hb3.mono (by first | omega | (simp; done) | (simp; omega))))).alloc (by omega) _).trans (hb4.mono (by first | omega | (simp; done) | (simp; omega))))).alloc (by omega) _).trans (hb5.mono (by first | omega | (simp; done) | (simp; omega))))).alloc (by omega) _).trans (hb6.mono (by first | omega | (simp; done) | (simp; omega))))).alloc (by omega) _).trans (hb7.mono (by first | omega | (simp; done) | (simp; omega))))).alloc (by omega) _).trans (hb8.mono (by first | omega | (simp; done) | (simp; omega))))).alloc (by omega) _).trans (hb9.mono (by first | omega | (simp; done) | (simp; omega))))).alloc (by omega) _).trans (hb10.mono (by first | omega | (simp; done) | (simp; omega))))⟩
 have H9 : Hid ((decide ((8304 : Int) ≤ c) && decide (c ≤ 8591)) = false) := by show _ = _; simp; omega
 go_wp2_with fail
 refine (has_any 8304 8591 _ _ false H9).mono ?_; rintro e w10 ⟨rfl, hb10⟩
 have hz10 := hb10.size
 simp only [World.size_alloc] at hz10
 go_wp2_with fail
 rw [rounds_succ]
 by_cases h10 : 11264 ≤ c ∧ c ≤ 12271
 ·have H10 : Hid ((decide ((11264 : Int) ≤ c) && decide (c ≤ 12271)) = true) := by show _ = _; simp [h10]
  have hv : Hid (startB c = true) := by show _ = _; unfold startB; simp; omega
  clear h10
  go_wp2_with fail
  refine (has_any 11264 12271 _ _ true H10).mono ?_; rintro e w11 ⟨rfl, hb11⟩
  have hz11 := hb11.size
  simp only [World.size_alloc] at hz11
  go_wp2_with fail
  go_ret
  exact ⟨by rw [hv.out]; rfl, (((((((((((((((((((((((((((((((((hb0).alloc (by omega) _).trans (hb1.mono (by first | omega | (simp; done) | (simp; omega))))).alloc (by omega) _).trans (hb2.mono (by first | omega | (simp; done) | (simp; omega))))).alloc (by omega) _).trans (hb3.mono (by first | omega | (simp; done) | (simp; omega))))).alloc (by omega) _).trans (hb4.mono (by first | omega | (simp; done) | (simp; omega))))).alloc (by omega) _).trans (hb5.mono (by first | omega | (simp; done) | (simp; omega))))).alloc (by omega) _).trans (hb6.mono (by first | omega | (simp; done) | (simp; omega))))).alloc (by omega) _).trans (hb7.mono (by first | omega | (simp; done) | (simp; omega))))).alloc (by omega) _).trans (hb8.mono (by first | omega | (simp; done) | (simp; omega))))).alloc (by omega) _).trans (hb9.mono (by first | omega | (simp; done) | (simp; omega))))).alloc (by omega) _).trans (hb10.mono (by first | omega | (simp; done) | (simp; omega))))).alloc (by omega) _).trans (hb11.mono (by first | omega | (simp; done) | (simp; omega))))⟩
 have H10 : Hid ((decide ((11264 : Int) ≤ c) && decide (c ≤ 12271)) = false) := by show _ = _; simp; omega
 go_wp2_with fail
 refine (has_any 11264 12271 _ _ false H10).mono ?_; rintro e w11 ⟨rfl, hb11⟩
 have hz11 := hb11.size
 simp only [World.size_alloc] at hz11
 go_wp2_with fail
 rw [rounds_succ]
 by_cases h11 : 12289 ≤ c ∧ c ≤ 55295
 ·have H11 : Hid ((decide ((12289 : Int) ≤ c) && decide (c ≤ 55295)) = true) := by show _ = _; simp [h11]
  have hv : Hid (startB c = true) := by show _ = _; unfold startB; simp; omega
  clear h11
  go_wp2_with fail
  refine (has_any 12289 55295 _ _ true H11).mono ?_; rintro e w12 ⟨rfl, hb12⟩
  have hz12 := hb12.size
  simp only [World.size_alloc] at hz12
  go_wp2_with fail
  go_ret
  exact ⟨by rw [hv.out]; rfl, ((((((((((((((((((((((((((((((((((((hb0).alloc (by omega) _).trans (hb1.mono (by first | omega | (simp; done) | (simp; omega))))).alloc (by omega) _).trans (hb2.mono (by first | omega | (simp; done) | (simp; omega))))).alloc (by omega) _).trans (hb3.mono (by first | omega | (simp; done) | (simp; omega))))).alloc (by omega) _).trans (hb4.mono (by first | omega | (simp; done) | (simp; omega))))).alloc (by omega) _).trans (hb5.mono (by first | omega | (simp; done) | (simp; omega))))).alloc (by omega) _).trans (hb6.mono (by first | omega | (simp; done) | (simp; omega))))).alloc (by omega) _).trans (hb7.mono (by first | omega | (simp; done) | (simp; omega))))).alloc (by omega) _).trans (hb8.mono (by first | omega | (simp; done) | (simp; omega))))).alloc (by omega) _).trans (hb9.mono (by first | omega | (simp; done) | (simp; omega))))).alloc (by omega) _).trans (hb10.mono (by first | omega | (simp; done) | (simp; omega))))).alloc (by omega) _).trans (hb11.mono (by first | omega | (simp; done) | (simp; omega))))).alloc (by omega) _).trans (hb12.mono (by first | omega | (simp; done) | (simp; omega))))⟩
 have H11 : Hid ((decide ((12289 : Int) ≤ c) && decide (c ≤ 55295)) = false) := by show _ = _; simp; omega
 go_wp2_with fail
 refine (has_any 12289 55295 _ _ false H11).mono ?_; rintro e w12 ⟨rfl, hb12⟩
 have hz12 := hb12.size
 simp only [World.size_alloc] at hz12
 go_wp2_with fail
 rw [rounds_succ]
 by_cases h12 : 63744 ≤ c ∧ c ≤ 64975
 ·have H12 : Hid ((decide ((63744 : Int) ≤ c) && decide (c ≤ 64975)) = true) := by show _ = _; simp [h12]
  have hv : Hid (startB c = true) := by show _ = _; unfold startB; simp; omega
  clear h12
  go_wp2_with fail
  refine (has_any 63744 64975 _ _ true H12).mono ?_; rintro e w13 ⟨rfl, hb13⟩
  have hz13 := hb13.size
  simp only [World.size_alloc] at hz13
  go_wp2_with fail
  go_ret
  exact ⟨by rw [hv.out]; rfl, (((((((((((((((((((((((((((((((((((((((hb0).alloc (by omega) _).trans (hb1.mono (by first | omega | (simp; done) | (simp; omega))))).alloc (by omega) _).trans (hb2.mono (by first | omega | (simp; done) | (simp; omega))))).alloc (by omega) _).trans (hb3.mono (by first | omega | (simp; done) | (simp; omega))))).alloc (by omega) _).trans (hb4.mono (by first | omega | (simp; done) | (simp; omega))))).alloc (by omega) _).trans (hb5.mono (by first | omega | (simp; done) | (simp; omega))))).alloc (by omega) _).trans (hb6.mono (by first | omega | (simp; done) | (simp; omega))))).alloc (by omega) _).trans (hb7.mono (by first | omega | (simp; done) | (simp; omega))))).alloc (by omega) _).trans (hb8.mono (by first | omega | (simp; done) | (simp; omega))))).alloc (by omega) _).trans (hb9.mono (by first | omega | (simp; done) | (simp; omega))))).alloc (by omega) _).trans (hb10.mono (by first | omega | (simp; done) | (simp; omega))))).alloc (by omega) _).trans (hb11.mono (by first | omega | (simp; done) | (simp; omega))))).alloc (by omega) _).trans (hb12.mono (by first | omega | (simp; done) | (simp; omega))))).alloc (by omega) _).trans (hb13.mono (by first | omega | (simp; done) | (simp; omega))))⟩
 have H12 : Hid ((decide ((63744 : Int) ≤ c) && decide (c ≤ 64975)) = false) := by show _ = _; simp; omega
 go_wp2_with fail
 refine (has_any 63744 64975 _ _ false H12).mono ?_; rintro e w13 ⟨rfl, hb13⟩
 have hz13 := hb13.size
 simp only [World.size_alloc] at hz13
 go_wp2_with fail
 rw [rounds_succ]
 by_cases h13 : 65008 ≤ c ∧ c ≤ 65533
 ·have H13 : Hid ((decide ((65008 : Int) ≤ c) && decide (c ≤ 65533)) = true) := by show _ = _; simp [h13]
  have hv : Hid (startB c = true) := by show _ = _; unfold startB; simp; omega
  clear h13
  go_wp2_with fail
  refine (has_any 65008 65533 _ _ true H13).mono ?_; rintro e w14 ⟨rfl, hb14⟩
  have hz14 := hb14.size
  simp only [World.size_alloc] at hz14
  go_wp2_with fail
  go_ret
  exact ⟨by rw [hv.out]; rfl, ((((((((((((((((((((((((((((((((((((((((((hb0).alloc (by omega) _).trans (hb1.mono (by first | omega | (simp; done) | (simp; omega))))).alloc (by omega) _).trans (hb2.mono (by first | omega | (simp; done) | (simp; omega))))).alloc (by omega) _).trans (hb3.mono (by first | omega | (simp; done) | (simp; omega))))).alloc (by omega) _).trans (hb4.mono (by first | omega | (simp; done) | (simp; omega))))).alloc (by omega) _).trans (hb5.mono (by first | omega | (simp; done) | (simp; omega))))).alloc (by omega) _).trans (hb6.mono (by first | omega | (simp; done) | (simp; omega))))).alloc (by omega) _).trans (hb7.mono (by first | omega | (simp; done) | (simp; omega))))).alloc (by omega) _).trans (hb8.mono (by first | omega | (simp; done) | (simp; omega))))).alloc (by omega) _).trans (hb9.mono (by first | omega | (simp; done) | (simp; omega))))).alloc (by omega) _).trans (hb10.mono (by first | omega | (simp; done) | (simp; omega))))).alloc (by omega) _).trans (hb11.mono (by first | omega | (simp; done) | (simp; omega))))).alloc (by omega) _).trans (hb12.mono (by first | omega | (simp; done) | (simp; omega))))).alloc (by omega) _).trans (hb13.mono (by first | omega | (simp; done) | (simp; omega))))).alloc (by omega) _).trans (hb14.mono (by first | omega | (simp; done) | (simp; omega))))⟩
 have H13 : Hid ((decide ((65008 : Int) ≤ c) && decide (c ≤ 65533)) = false) := by show _ = _; simp; omega
 go_wp2_with fail
 refine (has_any 65008 65533 _ _ false H13).mono ?_; rintro e w14 ⟨rfl, hb14⟩
 have hz14 := hb14.size
 simp only [World.size_alloc] at hz14
 go_wp2_with fail
 rw [rounds_succ]
 by_cases h14 : 65536 ≤ c ∧ c ≤ 983039
 ·have H14 : Hid ((decide ((65536 : Int) ≤ c) && decide (c ≤ 983039)) = true) := by show _ = _; simp [h14]
  have hv : Hid (startB c = true) := by show _ = _; unfold startB; simp; omega
  clear h14
  go_wp2_with fail
  refine (has_any 65536 983039 _ _ true H14).mono ?_; rintro e w15 ⟨rfl, hb15⟩
  have hz15 := hb15.size
  simp only [World.size_alloc] at hz15
  go_wp2_with fail
  go_ret
  exact ⟨by rw [hv.out]; rfl, (((((((((((((((((((((((((((((((((((((((((((((hb0).alloc (by omega) _).trans (hb1.mono (by first | omega | (simp; done) | (simp; omega))))).alloc (by omega) _).trans (hb2.mono (by first | omega | (simp; done) | (simp; omega))))).alloc (by omega) _).trans (hb3.mono (by first | omega | (simp; done) | (simp; omega))))).alloc (by omega) _).trans (hb4.mono (by first | omega | (simp; done) | (simp; omega))))).alloc (by omega) _).trans (hb5.mono (by first | omega | (simp; done) | (simp; omega))))).alloc (by omega) _).trans (hb6.mono (by first | omega | (simp; done) | (simp; omega))))).alloc (by omega) _).trans (hb7.mono (by first | omega | (simp; done) | (simp; omega))))).alloc (by omega) _).trans (hb8.mono (by first | omega | (simp; done) | (simp; omega))))).alloc (by omega) _).trans (hb9.mono (by first | omega | (simp; done) | (simp; omega))))).alloc (by omega) _).trans (hb10.mono (by first | omega | (simp; done) | (simp; omega))))).alloc (by omega) _).trans (hb11.mono (by first | omega | (simp; done) | (simp; omega))))).alloc (by omega) _).trans (hb12.mono (by first | omega | (simp; done) | (simp; omega))))).alloc (by omega) _).trans (hb13.mono (by first | omega | (simp; done) | (simp; omega))))).alloc (by omega) _).trans (hb14.mono (by first | omega | (simp; done) | (simp; omega))))).alloc (by omega) _).trans (hb15.mono (by first | omega | (simp; done) | (simp; omega))))⟩
 have H14 : Hid ((decide ((65536 : Int) ≤ c) && decide (c ≤ 983039)) = false) := by show _ = _; simp; omega
 go_wp2_with fail
 refine (has_any 65536 983039 _ _ false H14).mono ?_; rintro e w15 ⟨rfl, hb15⟩
 have hz15 := hb15.size
 simp only [World.size_alloc] at hz15
 go_wp2_with fail
 rw [rounds_succ]
 have hv : Hid (startB c = false) := by show _ = _; unfold startB; simp; omega
 clear h0 h1 h2 h3 h4 h5 h6 h7 h8 h9 h10 h11 h12 h13 h14
 go_wp2_with fail
 go_ret
 exact ⟨by rw [hv.out]; rfl, (((((((((((((((((((((((((((((((((((((((((((((hb0).alloc (by omega) _).trans (hb1.mono (by first | omega | (simp; done) | (simp; omega))))).alloc (by omega) _).trans (hb2.mono (by first | omega | (simp; done) | (simp; omega))))).alloc (by omega) _).trans (hb3.mono (by first | omega | (simp; done) | (simp; omega))))).alloc (by omega) _).trans (hb4.mono (by first | omega | (simp; done) | (simp; omega))))).alloc (by omega) _).trans (hb5.mono (by first | omega | (simp; done) | (simp; omega))))).alloc (by omega) _).trans (hb6.mono (by first | omega | (simp; done) | (simp; omega))))).alloc (by omega) _).trans (hb7.mono (by first | omega | (simp; done) | (simp; omega))))).alloc (by omega) _).trans (hb8.mono (by first | omega | (simp; done) | (simp; omega))))).alloc (by omega) _).trans (hb9.mono (by first | omega | (simp; done) | (simp; omega))))).alloc (by omega) _).trans (hb10.mono (by first | omega | (simp; done) | (simp; omega))))).alloc (by omega) _).trans (hb11.mono (by first | omega | (simp; done) | (simp; omega))))).alloc (by omega) _).trans (hb12.mono (by first | omega | (simp; done) | (simp; omega))))).alloc (by omega) _).trans (hb13.mono (by first | omega | (simp; done) | (simp; omega))))).alloc (by omega) _).trans (hb14.mono (by first | omega | (simp; done) | (simp; omega))))).alloc (by omega) _).trans (hb15.mono (by first | omega | (simp; done) | (simp; omega))))⟩
end
section
open Go.RowKit
theorem Part_any (c : Int) (w : World) :
  Calls Tryz.prog 96 #[.int .i32 c] w (Ret w (.bool (partB c))) := by
 have q0 := pt_0
 have q1 := pt_1
 have q2 := pt_2
 have q3 := pt_3
 have q4 := pt_4
 have ht : (#[Value.int .i32 45, Value.int .i32 46, Value.int .i32 48, Value.int .i32 57, Value.int .i32 183, Value.int .i32 183, Value.int .i32 768, Value.int .i32 879, Value.int .i32 8255, Value.int .i32 8256] : Array Value) = partsTab := rfl
 go_enter Tryz.func96, Tryz.ntmps96
 go_wp2_with fail
 refine wp_loop_rounds 6 ?_
 rw [rounds_succ]
 by_cases h0 : 45 ≤ c ∧ c ≤ 46
 ·have H0 : Hid ((decide ((45 : Int) ≤ c) && decide (c ≤ 46)) = true) := by show _ = _; simp [h0]
  have hv : Hid (partB c = true) := by show _ = _; unfold partB; simp; right; omega
  clear h0
  go_wp2_with fail
  refine (has_any 45 46 _ _ true H0).mono ?_; rintro e w1 ⟨rfl, hb1⟩
  have hz1 := hb1.size
  simp only [World.size_alloc] at hz1
  go_wp2_with fail
  go_ret
  exact ⟨by rw [hv.out]; rfl, ((((Below.refl w.heap.size w)).alloc (by omega) _).trans (hb1.mono (by first | omega | (simp; done) | (simp; omega))))⟩
 have H0 : Hid ((decide ((45 : Int) ≤ c) && decide (c ≤ 46)) = false) := by show _ = _; simp; omega
 go_wp2_with fail
 refine (has_any 45 46 _ _ false H0).mono ?_; rintro e w1 ⟨rfl, hb1⟩
 have hz1 := hb1.size
 simp only [World.size_alloc] at hz1
 go_wp2_with fail
 rw [rounds_succ]
 by_cases h1 : 48 ≤ c ∧ c ≤ 57
 ·have H1 : Hid ((decide ((48 : Int) ≤ c) && decide (c ≤ 57)) = true) := by show _ = _; simp [h1]
  have hv : Hid (partB c = true) := by show _ = _; unfold partB; simp; right; omega
  clear h1
  go_wp2_with fail
  refine (has_any 48 57 _ _ true H1).mono ?_; rintro e w2 ⟨rfl, hb2⟩
  have hz2 := hb2.size
  simp only [World.size_alloc] at hz2
  go_wp2_with fail
  go_ret
  exact ⟨by rw [hv.out]; rfl, (((((((Below.refl w.heap.size w)).alloc (by omega) _).trans (hb1.mono (by first | omega | (simp; done) | (simp; omega))))).alloc (by omega) _).trans (hb2.mono (by first | omega | (simp; done) | (simp; omega))))⟩
 have H1 : Hid ((decide ((48 : Int) ≤ c) && decide (c ≤ 57)) = false) := by show _ = _; simp; omega
 go_wp2_with fail
 refine (has_any 48 57 _ _ false H1).mono ?_; rintro e w2 ⟨rfl, hb2⟩
 have hz2 := hb2.size
 simp only [World.size_alloc] at hz2
 go_wp2_with fail
 rw [rounds_succ]
 by_cases h2 : 183 ≤ c ∧ c ≤ 183
 ·have H2 : Hid ((decide ((183 : Int) ≤ c) && decide (c ≤ 183)) = true) := by show _ = _; simp [h2]
  have hv : Hid (partB c = true) := by show _ = _; unfold partB; simp; right; omega
  clear h2
  go_wp2_with fail
  refine (has_any 183 183 _ _ true H2).mono ?_; rintro e w3 ⟨rfl, hb3⟩
  have hz3 := hb3.size
  simp only [World.size_alloc] at hz3
  go_wp2_with fail
  go_ret
  exact ⟨by rw [hv.out]; rfl, ((((((((((Below.refl w.heap.size w)).alloc (by omega) _).trans (hb1.mono (by first | omega | (simp; done) | (simp; omega))))).alloc (by omega) _).trans (hb2.mono (by first | omega | (simp; done) | (simp; omega))))).alloc (by omega) _).trans (hb3.mono (by first | omega | (simp; done) | (simp; omega))))⟩
 have H2 : Hid ((decide ((183 : Int) ≤ c) && decide (c ≤ 183)) = false) := by show _ = _; simp; omega
 go_wp2_with fail
 refine (has_any 183 183 _ _ false H2).mono ?_; rintro e w3 ⟨rfl, hb3⟩
 have hz3 := hb3.size
 simp only [World.size_alloc] at hz3
 go_wp2_with fail
 rw [rounds_succ]
 by_cases h3 : 768 ≤ c ∧ c ≤ 879
 ·have H3 : Hid ((decide ((768 : Int) ≤ c) && decide (c ≤ 879)) = true) := by show _ = _; simp [h3]
  have hv : Hid (partB c = true) := by show _ = _; unfold partB; simp; right; omega
  clear h3
  go_wp2_with fail
  refine (has_any 768 879 _ _ true H3).mono ?_; rintro e w4 ⟨rfl, hb4⟩
  have hz4 := hb4.size
  simp only [World.size_alloc] at hz4
  go_wp2_with fail
  go_ret
  exact ⟨by rw [hv.out]; rfl, (((((((((((((Below.refl w.heap.size w)).alloc (by omega) _).trans (hb1.mono (by first | omega | (simp; done) | (simp; omega))))).alloc (by omega) _).trans (hb2.mono (by first | omega | (simp; done) | (simp; omega))))).alloc (by omega) _).trans (hb3.mono (by first | omega | (simp; done) | (simp; omega))))).alloc (by omega) _).trans (hb4.mono (by first | omega | (simp; done) | (simp; omega))))⟩
 have H3 : Hid ((decide ((768 : Int) ≤ c) && decide (c ≤ 879)) = false) := by show _ = _; simp; omega
 go_wp2_with fail
 refine (has_any 768 879 _ _ false H3).mono ?_; rintro e w4 ⟨rfl, hb4⟩
 have hz4 := hb4.size
 simp only [World.size_alloc] at hz4
 go_wp2_with fail
 rw [rounds_succ]
 by_cases h4 : 8255 ≤ c ∧ c ≤ 8256
 ·have H4 : Hid ((decide ((8255 : Int) ≤ c) && decide (c ≤ 8256)) = true) := by show _ = _; simp [h4]
  have hv : Hid (partB c = true) := by show _ = _; unfold partB; simp; right; omega
  clear h4
  go_wp2_with fail
  refine (has_any 8255 8256 _ _ true H4).mono ?_; rintro e w5 ⟨rfl, hb5⟩
  have hz5 := hb5.size
  simp only [World.size_alloc] at hz5
  go_wp2_with fail
  go_ret
  exact ⟨by rw [hv.out]; rfl, ((((((((((((((((Below.refl w.heap.size w)).alloc (by omega) _).trans (hb1.mono (by first | omega | (simp; done) | (simp; omega))))).alloc (by omega) _).trans (hb2.mono (by first | omega | (simp; done) | (simp; omega))))).alloc (by omega) _).trans (hb3.mono (by first | omega | (simp; done) | (simp; omega))))).alloc (by omega) _).trans (hb4.mono (by first | omega | (simp; done) | (simp; omega))))).alloc (by omega) _).trans (hb5.mono (by first | omega | (simp; done) | (simp; omega))))⟩
 have H4 : Hid ((decide ((8255 : Int) ≤ c) && decide (c ≤ 8256)) = false) := by show _ = _; simp; omega
 go_wp2_with fail
 refine (has_any 8255 8256 _ _ false H4).mono ?_; rintro e w5 ⟨rfl, hb5⟩
 have hz5 := hb5.size
 simp only [World.size_alloc] at hz5
 go_wp2_with fail
 rw [rounds_succ]
 have hv : Hid (partB c = startB c) := by show _ = _; unfold partB; rw [Bool.or_eq_left_iff_imp]; simp; omega
 clear h0 h1 h2 h3 h4
 go_wp2_with fail
 refine (Start_any _ _).mono ?_; rintro e w9 ⟨rfl, hb9⟩
 have hz9 := hb9.size
 go_wp2_with fail
 go_ret
 exact ⟨by rw [hv.out]; rfl, (((((((((((((((((Below.refl w.heap.size w)).alloc (by omega) _).trans (hb1.mono (by first | omega | (simp; done) | (simp; omega))))).alloc (by omega) _).trans (hb2.mono (by first | omega | (simp; done) | (simp; omega))))).alloc (by omega) _).trans (hb3.mono (by first | omega | (simp; done) | (simp; omega))))).alloc (by omega) _).trans (hb4.mono (by first | omega | (simp; done) | (simp; omega))))).alloc (by omega) _).trans (hb5.mono (by first | omega | (simp; done) | (simp; omega))))).trans (hb9.mono (by omega))⟩
end
section
open Go.RowKit
theorem Part_as (c : Int) (w : World) (r : Bool) (h : Hid (partB c = r)) : Calls Tryz.prog 96 #[.int .i32 c] w (Ret w (.bool r)) := by
 rw [← h.out]; exact Part_any c w
theorem Start_as (c : Int) (w : World) (r : Bool) (h : Hid (startB c = r)) : Calls Tryz.prog 97 #[.int .i32 c] w (Ret w (.bool r)) := by
 rw [← h.out]; exact Start_any c w
theorem name1_any (c : Int) (first : Bool) (w : World) (r : Bool) (h : Hid ((partB c && (!first || startB c)) = r)) :
  Calls Tryz.prog 95 #[.int .i32 c, .bool first] w (Ret w (.bool r)) := by
 rw [← h.out]
 clear h
 obtain ⟨p, hp⟩ : ∃ p, Hid (partB c = p) := ⟨_, rfl⟩
 obtain ⟨q, hq⟩ : ∃ q, Hid (startB c = q) := ⟨_, rfl⟩
 rw [hp.out, hq.out]
 cases p <;> cases first <;> cases q
 all_goals
  go_enter Tryz.func95, Tryz.ntmps95
  go_wp2_with (first
   | (go_at_call 96; refine (Part_as c _ _ hp).mono ?_; rintro e w2 ⟨rfl, hb2⟩)
   | (go_at_call 97; refine (Start_as c _ _ hq).mono ?_; rintro e w3 ⟨rfl, hb3⟩))
  go_ret
  first
   | exact ⟨rfl, hb2⟩
   | exact ⟨rfl, hb2.trans (hb3.mono (by have := hb2.size; omega))⟩
theorem each_name (s : ByteArray) (b : Nat) (w : World) (hs : s.size ≤ maxLen) (hb : b < w.heap.size)
  (hc : w.cell? ⟨b, 0, none⟩ = some (.func (.func 95) #[] #[])) (V : Int) (hV : Hid (eachI 0 s.data.toList = V)) :
  Calls Tryz.prog 94 #[.string s, .slice (some ⟨b, 0, none⟩) 1 1] w (Ret w (.int .i64 V)) := by
 unfold maxLen at hs
 have HC := Lib.hid hc
 clear hc
 go_enter Tryz.func94, Tryz.ntmps94
 go_wp2_with fail
 go_loopw [0, 5] (fun sv mv wr => ∃ (t : ByteArray) (k : Nat), sv = .string t ∧ mv = .int .i64 k ∧ k + t.size ≤ s.size ∧ Hid (eachI k t.data.toList = V) ∧ Below w.heap.size w wr) (fun sv _ _ => (strOf sv).size)
 case atStart => exact ⟨s, 0, rfl, rfl, by omega, hV, Below.refl _ _⟩
 case round =>
  obtain ⟨t, k, rfl, rfl, hkt, hyes, hbel⟩ := hrel
  have hwr := hbel.size
  have HL := Lib.hid (size_toList t)
  by_cases he : t.toList.isEmpty = true
  ·have hnil : t.data.toList = [] := by rw [ByteArray.toList_eq] at he; simpa using he
   have hv : Hid (V = k) := by
    have := hyes.out
    rw [hnil, eachI_nil] at this
    exact this.symm
   clear hnil
   go_wp2_with fail
   go_ret
   exact ⟨by rw [hv.out]; rfl, hbel⟩
  ·have hne : t.toList.isEmpty = false := by simpa using he
   clear he
   have hnn : Hid (t.data.toList ≠ []) := by
    intro h
    rw [ByteArray.toList_eq, h] at hne
    cases hne
   obtain ⟨c, n, hq⟩ : ∃ c n, Hid (nextL t.data.toList = (c, n)) := ⟨_, _, rfl⟩
   have hle := nextL_le t.data.toList
   rw [hq.out, HL.out] at hle
   obtain ⟨hn1, hn4⟩ := hle
   simp only at hn1 hn4
   by_cases hn : n = 0
   ·have hv : Hid (V = -1) := by
     have := eachI_bad k t.data.toList hnn.out (by rw [hq.out]; exact hn)
     exact hyes.out.symm.trans this
    have hn0 : ((n : Int) == 0) = true := by simp [hn]
    clear hn
    go_wp2_with (go_at_call 111; refine (Next_as t wr (by unfold maxLen; omega) c n hq).mono ?_; rintro e w2 ⟨rfl, hb2⟩)
    go_ret
    exact ⟨by rw [hv.out]; rfl, hbel.trans (hb2.mono (by omega))⟩
   ·have hn0 : ((n : Int) == 0) = false := by simp [hn]
    have hnp : 1 ≤ n := by omega
    have HN : Hid ((nextL t.data.toList).2 ≠ 0) := by show _; rw [hq.out]; exact hn
    clear hn
    obtain ⟨f, hf⟩ : ∃ f, Hid (((k : Int) == 0) = f) := ⟨_, rfl⟩
    have hf' : Hid ((k == 0) = f) := by
     show _ = _
     rw [← hf.out, Bool.eq_iff_iff]; simp
    obtain ⟨r, hr⟩ : ∃ r, Hid ((partB c && (!f || startB c)) = r) := ⟨_, rfl⟩
    go_wp2_with fail
    refine (Next_as t wr (by unfold maxLen; omega) c n hq).mono ?_
    rintro e w2 ⟨rfl, hb2⟩
    obtain ⟨wo, rfl⟩ : ∃ wo : World, wo = wr := ⟨_, rfl⟩
    have hbel2 := hbel.trans (hb2.mono (by omega))
    have hz2 := hbel2.size
    have hcell : w2.cell? ⟨b, 0, none⟩ = some (.func (.func 95) #[] #[]) := by
     rw [hbel2.cell (p := ⟨b, 0, none⟩) hb]; exact HC.out
    have hfv := hf.out
    go_wp2_with fail
    cases r with
    | false =>
     have hv : Hid (V = -1) := by
      have := eachI_no k t.data.toList hnn.out HN.out (by rw [hq.out, hf'.out]; exact hr.out)
      exact hyes.out.symm.trans this
     refine wp_loop_rounds 1 ?_
     rw [rounds_succ]
     go_wp2_with (go_at_call 95; refine (name1_any c f _ _ hr).mono ?_; rintro e w3 ⟨rfl, hb3⟩)
     go_ret
     exact ⟨by rw [hv.out]; rfl, hbel2.trans (hb3.mono (by omega))⟩
    | true =>
     have hx : (t.extract n t.size).data.toList = t.data.toList.drop n := Lib.extract_to_end t n
     have hxs : (t.extract n t.size).size = t.size - n := by simp
     have hst : Hid (eachI (k + 1) (t.extract n t.size).data.toList = V) := by
      have := eachI_step k t.data.toList hnn.out HN.out (by rw [hq.out, hf'.out]; exact hr.out)
      rw [hq.out] at this
      show _ = _
      rw [hx, ← hyes.out, this]
     have HX := Lib.hid hxs
     clear hx hxs
     refine wp_loop_rounds 2 ?_
     rw [rounds_succ]
     go_wp2_with (go_at_call 95; refine (name1_any c f _ _ hr).mono ?_; rintro e w3 ⟨rfl, hb3⟩)
     rw [rounds_succ]
     go_wp2_with fail
     go_roundw
     case rel => exact ⟨t.extract n t.size, k + 1, rfl, by go_num, by rw [HX.out]; omega, hst, hbel2.trans (hb3.mono (by omega))⟩
     case measure =>
      show (t.extract n t.size).size < t.size
      rw [HX.out]; omega
theorem Name_any (s : ByteArray) (w : World) (hs : s.size ≤ maxLen) (r : Bool) (hr : Hid (nameL s.data.toList = r)) :
  Calls Tryz.prog 70 #[.string s] w (Ret w (.bool r)) := by
 have hr' := hr.out
 rw [nameL_each, size_toList] at hr'
 have HL := Lib.hid hr'
 clear hr hr'
 by_cases he : s.toList.isEmpty = true
 ·have hnil : s.data.toList = [] := by rw [ByteArray.toList_eq] at he; simpa using he
  have hv : Hid (r = false) := by show _ = _; rw [← HL.out, hnil]; simp
  clear hnil HL
  go_enter Tryz.func70, Tryz.ntmps70
  go_wp2_with fail
  go_ret
  exact ⟨by rw [hv.out]; rfl, Below.refl _ _⟩
 ·have hne : s.toList.isEmpty = false := by simpa using he
  clear he
  have hnn : Hid (s.data.toList ≠ []) := by
   intro h
   rw [ByteArray.toList_eq, h] at hne
   cases hne
  by_cases h60 : s.size ≤ 60
  ·obtain ⟨V, hV⟩ : ∃ V, Hid (eachI 0 s.data.toList = V) := ⟨_, rfl⟩
   have hz : (s.size : Int) ≤ 60 := by omega
   have hv : Hid (decide (0 < V) = r) := by
    show _ = _
    rw [← HL.out, hV.out]; simp [h60, hnn.out]
   clear h60
   go_enter Tryz.func70, Tryz.ntmps70
   go_wp2_with fail
   refine (each_name s w.heap.size _ hs (by simp) (World.cell?_alloc_at _ _ _ _ (by simp)) V hV).mono ?_
   rintro e w2 ⟨rfl, hb2⟩
   go_wp2_with fail
   go_ret
   refine ⟨by rw [← hv.out]; rfl, ((Below.refl _ w).alloc (Nat.le_refl _) _).trans (hb2.mono (by simp))⟩
  ·have hz : 60 < (s.size : Int) := by omega
   have hv : Hid (r = false) := by show _ = _; rw [← HL.out]; simp [h60]
   clear h60
   go_enter Tryz.func70, Tryz.ntmps70
   go_wp2_with fail
   go_ret
   exact ⟨by rw [hv.out]; rfl, Below.refl _ _⟩
end
section
open Go.RowKit
theorem Name_l (s : List UInt8) (w : World) (hs : s.length ≤ 1000000000) (r : Bool) (hr : Hid (nameL s = r)) :
  Calls Tryz.prog 70 #[.string ⟨s.toArray⟩] w (Ret w (.bool r)) := Name_any _ w (by show s.toArray.size ≤ maxLen; unfold maxLen; simp; omega) r hr
theorem chars_l (s : List UInt8) (w : World) (hs : s.length ≤ 1000000000) (n : Int) (h : Hid (charsE s = n)) :
  Calls Tryz.prog 103 #[.string ⟨s.toArray⟩] w (Ret w (.int .i64 n)) := chars_as _ w (by show s.toArray.size ≤ maxLen; unfold maxLen; simp; omega) n h
theorem rchars_l (s : List UInt8) (w : World) (hs : s.length ≤ 1000000000) (n : Int) (h : Hid (charsE s = n)) :
  Calls Tryz.prog 105 #[.string ⟨s.toArray⟩] w (Ret w (.int .i64 n)) := rchars_as _ w (by show s.toArray.size ≤ _; simp; omega) n h
theorem names_any (x : ItemD) (A : Option Addr) (c : Nat) (w : World) (hA : AttrsAt w w.heap.size A x.attrs) (hs : SmallItem x) (V : Int) (hV : Hid (namesE x = V)) :
  Calls Tryz.prog 104 #[.agg (itemVal x A c)] w (Ret w (.int .i64 V)) := by
 obtain ⟨hs1, hs2, hs3, hs4, hs5⟩ := hs
 have HS4 := Lib.hid hs4
 have HA := Lib.hid hA
 clear hs4 hA hs5
 have hV' := hV.out
 unfold namesE at hV'
 clear hV
 unfold itemVal strV
 cases hn : nameL x.name with
 | false =>
  have HN : Hid (nameL x.name = false) := hn
  have hv : Hid (V = 63) := by show _ = _; rw [← hV', hn]; rfl
  clear hV' hn
  go_enter Tryz.func104, Tryz.ntmps104
  go_wp2_with fail
  refine (Name_l _ _ hs1 _ HN).mono ?_; rintro e w2 ⟨rfl, hb2⟩
  go_wp2_with fail
  go_ret
  exact ⟨by rw [hv.out]; rfl, ((Below.refl _ w).alloc (Nat.le_refl _) _).trans (hb2.mono (by simp))⟩
 | true =>
  have HN : Hid (nameL x.name = true) := hn
  rw [hn, Bool.true_and] at hV'
  clear hn
  obtain ⟨R, hR⟩ : ∃ R, Hid (attrNames [] x.attrs = R) := ⟨_, rfl⟩
  rw [hR.out] at hV'
  have HV := Lib.hid hV'
  clear hV'
  go_enter Tryz.func104, Tryz.ntmps104
  go_wp2_with fail
  obtain ⟨w1, hw1⟩ : ∃ w1, Hid (w1 = w.alloc (.cells #[.int .i64 x.level, .int .i64 x.kind, .string ⟨x.name.toArray⟩, .string ⟨x.text.toArray⟩, .slice A x.attrs.length c] 62)) := ⟨_, rfl⟩
  have hbw1 : Below w.heap.size w w1 := by rw [hw1.out]; exact (Below.refl _ w).alloc (Nat.le_refl _) _
  have hz1 : w.heap.size < w1.heap.size := by rw [hw1.out]; simp
  have hcell1 : Hid (w1.cell? ⟨w.heap.size, 4, none⟩ = some (.slice A x.attrs.length c)) := by
   show _ = _
   rw [hw1.out, World.cell?_alloc_at _ _ _ _ (by simp)]; rfl
  rw [← hw1.out]
  refine (Name_l _ _ hs1 _ HN).mono ?_; rintro e w2 ⟨rfl, hb2⟩
  have hz2 := hb2.size
  have hc4 : w2.cell? ⟨w.heap.size, 4, none⟩ = some (.slice A x.attrs.length c) := by
   rw [hb2.cell (p := ⟨w.heap.size, 4, none⟩) hz1]; exact hcell1.out
  go_wp2_with fail
  go_loopw [3, 13] (fun last i wr => ∃ (k : Nat) (l : List UInt8), k ≤ x.attrs.length ∧ i = .int .i64 k ∧ last = .string ⟨l.toArray⟩ ∧ Hid (attrNames l (x.attrs.drop k) = R) ∧ Below w2.heap.size w2 wr) (fun _ i _ => x.attrs.length - (intOf i).toNat)
  case atStart => exact ⟨0, [], Nat.zero_le _, rfl, rfl, hR, Below.refl _ _⟩
  case round =>
   obtain ⟨k, l, hk, rfl, rfl, hin, hbel⟩ := hrel
   have hzr := hbel.size
   have hbwr : Below w.heap.size w wr := (hbw1.trans (hb2.mono (by omega))).trans (hbel.mono (by omega))
   by_cases hlt : k < x.attrs.length
   ·obtain ⟨a, ha⟩ : ∃ a, Hid (x.attrs[k]? = some a) := ⟨x.attrs[k], List.getElem?_eq_getElem _⟩
    obtain ⟨ad, hAd, hbl, hcs⟩ := (HA.out.below hbwr) (by omega)
    obtain ⟨hc0, hc1⟩ := hcs k a ha.out
    unfold strV at hc0 hc1
    clear hcs
    have hin' := hin.out
    rw [drop_cons ha.out, attrNames] at hin'
    have hnm := (HS4.out k a ha.out).1
    subst hAd
    have hlt' : (k : Int) < x.attrs.length := by omega
    cases hq : nameL a.name with
    | false =>
     have HQ : Hid (nameL a.name = false) := hq
     have hv : Hid (V = 63) := by
      show _ = _
      rw [hq] at hin'
      have hR' : R = false := hin'.symm
      rw [← HV.out, hR']; rfl
     clear hin' hq
     go_wp2_with fail
     refine (Name_l _ _ hnm _ HQ).mono ?_; rintro e w3 ⟨rfl, hb3⟩
     have hz3 := hb3.size
     simp only [World.size_alloc] at hz3
     go_wp2_with fail
     go_ret
     exact ⟨by rw [hv.out]; rfl, (hbwr.alloc (by omega) _).trans (hb3.mono (by simp; omega))⟩
    | true =>
     have HQ : Hid (nameL a.name = true) := hq
     rw [hq, Bool.true_and] at hin'
     clear hq
     have hcell3 : ∀ w3, Below (wr.alloc (Obj.cells #[Value.string ⟨a.name.toArray⟩, Value.string ⟨a.value.toArray⟩] 66)).heap.size (wr.alloc (Obj.cells #[Value.string ⟨a.name.toArray⟩, Value.string ⟨a.value.toArray⟩] 66)) w3 → w3.cell? ⟨wr.heap.size, 0, none⟩ = some (.string ⟨a.name.toArray⟩) := fun w3 hb3 => by
      rw [hb3.cell (p := ⟨wr.heap.size, 0, none⟩) (by simp), World.cell?_alloc_at _ _ _ _ (by simp)]; rfl
     have HC3 := Lib.hid hcell3
     clear hcell3
     obtain ⟨b1, hb1⟩ : ∃ b1, Op.bytesLess a.name l = b1 := ⟨_, rfl⟩
     obtain ⟨b2, hb2'⟩ : ∃ b2, (a.name == l) = b2 := ⟨_, rfl⟩
     have hle : leB a.name l = (b1 || b2) := by unfold leB; rw [hb1, hb2']
     rw [hle] at hin'
     clear hle
     cases hbb : (b1 || b2) with
     | true =>
      have hv : Hid (V = 63) := by
       show _ = _
       rw [hbb] at hin'
       have hR' : R = false := hin'.symm
       rw [← HV.out, hR']; rfl
      clear hin'
      go_wp2_with fail
      refine (Name_l _ _ hnm _ HQ).mono ?_; rintro e w3 ⟨rfl, hb3⟩
      have hz3 := hb3.size
      have hcell3 := HC3.out w3 hb3
      simp only [World.size_alloc] at hz3
      go_wp2_with fail
      go_ret
      exact ⟨by rw [hv.out]; rfl, (hbwr.alloc (by omega) _).trans (hb3.mono (by simp; omega))⟩
     | false =>
      rw [hbb] at hin'
      have hin2 : Hid (attrNames a.name (x.attrs.drop (k + 1)) = R) := hin'
      clear hin'
      go_wp2_with fail
      refine (Name_l _ _ hnm _ HQ).mono ?_; rintro e w3 ⟨rfl, hb3⟩
      have hz3 := hb3.size
      have hcell3 := HC3.out w3 hb3
      simp only [World.size_alloc] at hz3
      go_wp2_with fail
      go_roundw
      case rel => exact ⟨k + 1, a.name, by omega, by go_num, rfl, hin2, (hbel.alloc (by omega) _).trans (hb3.mono (by simp; omega))⟩
      case measure => simp [intOf]; omega
   ·have hk' : k = x.attrs.length := by omega
    have hR' : R = true := by
     rw [← hin.out, List.drop_eq_nil_of_le (by omega)]; rfl
    have hv' := HV.out
    rw [hR'] at hv'
    subst hk'
    have hc4r : wr.cell? ⟨w.heap.size, 4, none⟩ = some (.slice A x.attrs.length c) := by
     rw [hbel.cell (p := ⟨w.heap.size, 4, none⟩) (by show w.heap.size < _; omega)]; exact hc4
    by_cases h20 : 20 < x.attrs.length
    ·have hv : Hid (V = 67) := by show _ = _; rw [← hv', if_pos rfl, if_pos h20]
     have h20' : (20 : Int) < x.attrs.length := by omega
     clear hv' h20
     go_wp2_with fail
     go_ret
     exact ⟨by rw [hv.out]; rfl, hbwr⟩
    ·have hv : Hid (V = 0) := by show _ = _; rw [← hv', if_pos rfl, if_neg h20]
     have h20' : (x.attrs.length : Int) ≤ 20 := by omega
     clear hv' h20
     go_wp2_with fail
     go_ret
     exact ⟨by rw [hv.out]; rfl, hbwr⟩
end
section
open Go.RowKit
/-! Rows laid out flat. -/
theorem flat_length {α β : Type} (f : α → List β) (n : Nat) (hf : ∀ a, (f a).length = n) : ∀ l : List α, (l.flatMap f).length = l.length * n
 | [] => by simp
 | a :: l => by rw [List.flatMap_cons, List.length_append, hf, flat_length f n hf l, List.length_cons, Nat.add_mul]; omega
theorem flat_get {α β : Type} (f : α → List β) (n : Nat) (hf : ∀ a, (f a).length = n) : ∀ (l : List α) (k j : Nat) (a : α), l[k]? = some a → j < n → (l.flatMap f)[k * n + j]? = (f a)[j]?
 | [], k, j, a, h, _ => by simp at h
 | b :: l, 0, j, a, h, hj => by
  simp at h; subst h
  rw [List.flatMap_cons, List.getElem?_append_left (by rw [hf]; omega)]
  simp
 | b :: l, k + 1, j, a, h, hj => by
  rw [List.flatMap_cons, List.getElem?_append_right (by rw [hf, Nat.add_mul]; omega)]
  have e : (k + 1) * n + j - (f b).length = k * n + j := by rw [hf, Nat.add_mul]; omega
  rw [e]
  exact flat_get f n hf l k j a (by simpa using h) hj
theorem flat_set {α β : Type} (f : α → List β) (n : Nat) (hf : ∀ a, (f a).length = n) (l : List α) (k j : Nat) (a a' : α) (v : β) (h : l[k]? = some a) (hj : j < n) (hs : f a' = (f a).set j v) :
  (l.flatMap f).set (k * n + j) v = (l.set k a').flatMap f := by
 apply List.ext_getElem?
 intro i
 rw [List.getElem?_set]
 have hk : k < l.length := (List.getElem?_eq_some_iff.1 h).1
 have hlen := flat_length f n hf l
 have hlen' := flat_length f n hf (l.set k a')
 rw [List.length_set] at hlen'
 by_cases hi : i < l.length * n
 ·have hn : 0 < n := by omega
  obtain ⟨q, r, hr, rfl⟩ : ∃ q r, r < n ∧ i = q * n + r := ⟨i / n, i % n, Nat.mod_lt _ hn, by rw [Nat.mul_comm]; exact (Nat.div_add_mod i n).symm⟩
  have hq : q < l.length := by
   rcases Nat.lt_or_ge q l.length with h | h
   ·exact h
   ·have := Nat.mul_le_mul_right n h; omega
  by_cases hqk : q = k
  ·subst hqk
   have e1 : (l.set q a')[q]? = some a' := by rw [List.getElem?_set]; simp [hq]
   rw [flat_get f n hf _ q r a' e1 hr, flat_get f n hf l q r a h hr, hs, List.getElem?_set]
   by_cases hrj : j = r
   ·subst hrj
    rw [if_pos rfl, if_pos rfl, hf, if_pos hj, hlen]
    rw [if_pos hi]
   ·rw [if_neg (by omega), if_neg hrj]
  ·have e1 : (l.set k a')[q]? = l[q]? := by rw [List.getElem?_set]; rw [if_neg (Ne.symm hqk)]
   have e2 : l[q]? = some l[q] := List.getElem?_eq_getElem hq
   rw [flat_get f n hf _ q r _ (e1.trans e2) hr, flat_get f n hf l q r _ e2 hr]
   rw [if_neg]
   intro he
   rcases Nat.lt_or_ge q k with hlt | hge
   ·have := Nat.mul_le_mul_right n (show q + 1 ≤ k by omega)
    rw [Nat.add_mul] at this; omega
   ·have := Nat.mul_le_mul_right n (show k + 1 ≤ q by omega)
    rw [Nat.add_mul] at this; omega
 ·have r1 : ((l.set k a').flatMap f)[i]? = none := List.getElem?_eq_none (by rw [hlen']; omega)
  have r2 : (l.flatMap f)[i]? = none := List.getElem?_eq_none (by rw [hlen]; omega)
  rw [r1, r2]
  by_cases he : k * n + j = i
  ·rw [if_pos he, if_neg (by rw [hlen]; omega)]
  ·rw [if_neg he]
/-! What an owned row reads as. -/
theorem own_flat {α : Type} {w : World} {B : Nat} {e : TypeId} {n : Nat} {ad : Option Addr} {c : Nat} {l : List α} (f : α → List Value) (hf : ∀ a, (f a).length = n) (h : w.ownsRow B e n (.slice ad l.length c) l.length (l.flatMap f)) :
  0 < l.length → ∃ g, ad = some ⟨g, 0, none⟩ ∧ B ≤ g ∧ g < w.heap.size ∧ (∃ cur, w.heap[g]? = some (.cells cur e (0, 0))) ∧ ∀ k a j u, l[k]? = some a → (f a)[j]? = some u → w.cell? ((⟨g, 0, none⟩ : Addr).add (k * n + j)) = some u := by
 intro hl
 rcases h.2 with ⟨_, h0⟩ | ⟨g, cap, cur, hv, hb, hc, _⟩
 ·omega
 ·injection hv with hv h2 h3
  subst hv
  refine ⟨g, rfl, hb, (Array.getElem?_eq_some_iff.1 hc).1, ⟨cur, hc⟩, fun k a j u hk hu => ?_⟩
  have hj : j < n := by rw [← hf a]; exact (List.getElem?_eq_some_iff.1 hu).1
  refine h.cells (g := g) rfl _ u ?_
  rw [flat_get f n hf l k j a hk hj]; exact hu
theorem own_type {w : World} {B : Nat} {e : TypeId} {size : Nat} {v : Value} {n : Nat} {xs : List Value} (h : w.ownsRow B e size v n xs) : ∀ g, v.ownBlock = some g → B ≤ g ∧ g < w.heap.size ∧ ∃ cur, w.heap[g]? = some (.cells cur e (0, 0)) := by
 intro g hg
 rcases h.2 with ⟨rfl, _⟩ | ⟨g', cap, cur, rfl, hb, hc, _⟩
 ·cases hg
 ·injection hg with hg
  have hg : g' = g := hg
  subst hg
  exact ⟨hb, (Array.getElem?_eq_some_iff.1 hc).1, cur, hc⟩
theorem appendS {P : Program} {w : World} {ops : Array Oper} {rest : List Oper} {o : Oper} {a : Act} {Q : Exit → Act → World → Prop} (hgd : o.guard = none) (s x : Operand) (t : TypeId)
  (ho : o.op = .call { callee := .builtin .append, args := #[s, x], argTypes := #[t, t] })
  (B : Nat) (e : TypeId) (z : Value) (size bytes : Nat) (ht : P.underlying t = some (.slice e)) (hi : (P.info? e).map (fun i => (i.zero, i.size, i.bytes)) = some (some z, size, bytes))
  (hzs : z.cells.size = size) (hsz : 0 < size)
  (v : Value) (n : Nat) (xs : List Value) (news : List Value) (hs : a.eval s = v) (hown : w.ownsRow B e size v n xs) (hB : B ≤ w.heap.size)
  (X : Nat) (hx : a.eval x = .slice (some ⟨X, 0, none⟩) 1 1) (hX : X = w.heap.size) (hnl : news.length = size) (hu : ∀ u ∈ news, u.oneCell' = true) (hn : n < 4294967296) (hby : bytes ≤ 10000)
  (h : ∀ ad c w', w'.ownsRow B e size (.slice ad (n + 1) c) (n + 1) (xs ++ news) → Below B w w' → w.heap.size < w'.heap.size → (w.alloc (.cells news.toArray e)).grownBy w' v.ownBlock → wpList P ops Q rest (a.put o.dst (.slice ad (n + 1) c)) w') :
  wpList P ops Q (o :: rest) a (w.alloc (.cells news.toArray e)) := by
 subst hX
 obtain ⟨i0, hi0, hz0, hz1, hz2⟩ := info_parts hi
 refine wpList_append_own _ hgd s x t ho B e i0 z size bytes ht hi0 hz0 hz1 hz2 hzs hsz v n xs hs (hown.alloc _) ⟨w.heap.size, 0, none⟩ 1 1 news hx (by rw [hnl]; omega) ?_ hu
  (by unfold maxLen; omega) ?_ (by simp; omega) ?_
 ·intro j u hj
  have e : (⟨w.heap.size, 0, none⟩ : Addr).add j = ⟨w.heap.size, j, none⟩ := by unfold Addr.add; split <;> simp_all
  have hjl : j < news.length := (List.getElem?_eq_some_iff.1 hj).1
  rw [e, World.cell?_alloc_at _ _ _ _ (by simp)]
  simp [hj]
 ·have : (n + 1) * bytes ≤ 4294967296 * 10000 := Nat.mul_le_mul (by omega) hby
  omega
 ·intro v' w' hown' hg _
  obtain ⟨ad, c, rfl⟩ : ∃ ad c, v' = .slice ad (n + 1) c := by
   rcases hown'.2 with ⟨_, h0⟩ | ⟨g, c, cur, hv, _⟩
   ·omega
   ·exact ⟨_, c, hv⟩
  have hsz' := hg.size
  simp at hsz'
  exact h ad c w' hown' (((Below.refl B w).alloc hB _).grown hg (by simp; omega) (fun k hk => (hown.lt k hk).1)) (by omega) hg
theorem own_stored {w : World} {B : Nat} {e : TypeId} {size g n c : Nat} {xs : List Value} (h : w.ownsRow B e size (.slice (some ⟨g, 0, none⟩) n c) n xs) (j : Nat) (u : Value) : (w.setCell ⟨g, j, none⟩ u).ownsRow B e size (.slice (some ⟨g, 0, none⟩) n c) n (xs.set j u) := (h.stored j u).1
end
section
open Go.RowKit
def cellsA (a : AttrD) : List Value := [strV a.name, strV a.value]
abbrev Slot := ItemD × Option Addr × Nat
def cellsI (s : Slot) : List Value := [.int .i64 s.1.level, .int .i64 s.1.kind, strV s.1.name, strV s.1.text, .slice s.2.1 s.1.attrs.length s.2.2]
theorem cellsA_length (a : AttrD) : (cellsA a).length = 2 := rfl
theorem cellsI_length (s : Slot) : (cellsI s).length = 5 := rfl
def AttrsOwn (w : World) (B : Nat) (A : Option Addr) (c : Nat) (l : List AttrD) : Prop := w.ownsRow B 66 2 (.slice A l.length c) l.length (l.flatMap cellsA)
def ItemsOwn (w : World) (B : Nat) (A : Option Addr) (c : Nat) (S : List Slot) : Prop := w.ownsRow B 62 5 (.slice A S.length c) S.length (S.flatMap cellsI)
theorem add_zero_block (g k : Nat) : ((⟨g, 0, none⟩ : Addr).add k) = ⟨g, k, none⟩ := by unfold Addr.add; split <;> simp_all
theorem AttrsOwn.at {w : World} {B : Nat} {A : Option Addr} {c : Nat} {l : List AttrD} (h : AttrsOwn w B A c l) : AttrsAt w w.heap.size A l := fun hl => by
 obtain ⟨g, rfl, hb, hg, _, hc⟩ := own_flat cellsA cellsA_length h hl
 refine ⟨_, rfl, hg, fun k a ha => ⟨?_, ?_⟩⟩
 ·have := hc k a 0 (strV a.name) ha rfl
  simpa using this
 ·have := hc k a 1 (strV a.value) ha rfl
  rw [add_zero_block] at this ⊢
  exact this
theorem AttrsOwn.cap {w : World} {B : Nat} {A : Option Addr} {c : Nat} {l : List AttrD} (h : AttrsOwn w B A c l) : l.length ≤ c := by
 rcases h.2 with ⟨h1, h2⟩ | ⟨g, cap, cur, h1, _, _, h4, _⟩
 ·omega
 ·injection h1 with _ _ h3; omega
theorem ItemsOwn.at {w : World} {B : Nat} {A : Option Addr} {c : Nat} {S : List Slot} (h : ItemsOwn w B A c S) (ha : ∀ s ∈ S, AttrsAt w w.heap.size s.2.1 s.1.attrs ∧ s.1.attrs.length ≤ s.2.2) : ItemsAt w w.heap.size A (S.map (·.1)) := fun hl => by
 have hl' : 0 < S.length := by simpa using hl
 obtain ⟨g, rfl, hb, hg, _, hc⟩ := own_flat cellsI cellsI_length h hl'
 refine ⟨_, rfl, hg, fun k x hx => ?_⟩
 rw [List.getElem?_map] at hx
 obtain ⟨s, hs, rfl⟩ := Option.map_eq_some_iff.1 hx
 obtain ⟨h1, h2⟩ := ha s (List.mem_of_getElem? hs)
 have e : ∀ j u, (cellsI s)[j]? = some u → w.cell? ⟨g, k * 5 + j, none⟩ = some u := fun j u hu => by
  have := hc k s j u hs hu
  rwa [add_zero_block] at this
 refine ⟨s.2.1, s.2.2, h1, h2, ?_⟩
 rw [add_zero_block]
 exact ⟨e 0 _ rfl, e 1 _ rfl, e 2 _ rfl, e 3 _ rfl, e 4 _ rfl⟩
theorem infoAttr : (Tryz.prog.info? 66).map (fun i => (i.zero, i.size, i.bytes)) = some (some (.agg #[.string ByteArray.empty, .string ByteArray.empty]), 2, 32) := by kernel_rfl
theorem infoItem : (Tryz.prog.info? 62).map (fun i => (i.zero, i.size, i.bytes)) = some (some (.agg #[.int .i64 0, .int .i64 0, .string ByteArray.empty, .string ByteArray.empty, .slice none 0 0]), 5, 72) := by kernel_rfl
theorem AttrsAt.flat {w : World} {B : Nat} {ad : Addr} {l : List AttrD} (h : AttrsAt w B (some ad) l) : ∀ j u, (l.flatMap cellsA)[j]? = some u → w.cell? (ad.add j) = some u := by
 intro j u hu
 have hlen := flat_length cellsA 2 cellsA_length l
 have hj : j < l.length * 2 := by rw [← hlen]; exact (List.getElem?_eq_some_iff.1 hu).1
 obtain ⟨q, r, hr, rfl⟩ : ∃ q r, r < 2 ∧ j = q * 2 + r := ⟨j / 2, j % 2, by omega, by omega⟩
 have hq : q < l.length := by omega
 have hx : l[q]? = some l[q] := List.getElem?_eq_getElem hq
 rw [flat_get cellsA 2 cellsA_length l q r _ hx hr] at hu
 obtain ⟨ad', e, _, hc⟩ := h (by omega)
 injection e with e; subst e
 obtain ⟨h0, h1⟩ := hc q _ hx
 match r, hr, hu with
 | 0, _, hu => injection hu with hu; subst hu; exact h0
 | 1, _, hu =>
  injection hu with hu; subst hu
  have : ad.add (q * 2 + 1) = ⟨(ad.add (q * 2)).block, (ad.add (q * 2)).off + 1, none⟩ := by
   rw [← add_of_add]; rfl
  rw [this]; exact h1
theorem cellsA_one (l : List AttrD) : ∀ u ∈ l.flatMap cellsA, u.oneCell' = true := by
 intro u hu
 obtain ⟨a, _, ha⟩ := List.mem_flatMap.1 hu
 simp [cellsA, strV] at ha
 rcases ha with rfl | rfl <;> rfl
def ClonePost (w : World) (l : List AttrD) (e : Ending) (w' : World) : Prop := ∃ A c, e = .returned (.slice A l.length c) ∧ AttrsOwn w' w.heap.size A c l ∧ Below w.heap.size w w'
end
section
open Go.RowKit
/-! ## What turns, and what stands -/
structure Turn (M : Nat → Prop) (w w' : World) : Prop where
 os : w'.os = w.os
 tape : w'.tape = w.tape
 output : w'.output = w.output
 size : w.heap.size ≤ w'.heap.size
 block : ∀ k, k < w.heap.size → ¬ M k → w'.heap[k]? = w.heap[k]?
def Grows (M M' : Nat → Prop) (w w' : World) : Prop := Turn M w w' ∧ ∀ b, M' b → M b ∨ w.heap.size ≤ b
theorem Turn.refl (M : Nat → Prop) (w : World) : Turn M w w := ⟨rfl, rfl, rfl, Nat.le_refl _, fun _ _ _ => rfl⟩
theorem Turn.trans {M : Nat → Prop} {a b c : World} (h : Turn M a b) (k : Turn M b c) : Turn M a c :=
 ⟨k.os.trans h.os, k.tape.trans h.tape, k.output.trans h.output, Nat.le_trans h.size k.size, fun i hi hm => (k.block i (Nat.lt_of_lt_of_le hi h.size) hm).trans (h.block i hi hm)⟩
theorem Turn.mono {M M' : Nat → Prop} {w w' : World} (h : Turn M w w') (hm : ∀ b, M b → M' b) : Turn M' w w' :=
 ⟨h.os, h.tape, h.output, h.size, fun k hk hn => h.block k hk (fun x => hn (hm k x))⟩
theorem Turn.below {M : Nat → Prop} {B : Nat} {w w' : World} (h : Turn M w w') (hB : ∀ b, M b → B ≤ b) (hs : B ≤ w.heap.size) : Below B w w' :=
 ⟨h.os, h.tape, h.output, h.size, fun k hk => h.block k (Nat.lt_of_lt_of_le hk hs) (fun hm => by have := hB k hm; omega)⟩
theorem Turn.of_below {M : Nat → Prop} {w w' : World} (h : Below w.heap.size w w') : Turn M w w' :=
 ⟨h.os, h.tape, h.output, h.size, fun k hk _ => h.block k hk⟩
theorem Turn.drew {M : Nat → Prop} {a w : World} (h : Turn M a w) : Turn M a w.drew := ⟨h.os, h.tape, h.output, h.size, h.block⟩
theorem Turn.setCell {M : Nat → Prop} {a w : World} (h : Turn M a w) {p : Addr} (hp : M p.block ∨ a.heap.size ≤ p.block) (u : Value) : Turn M a (w.setCell p u) := by
 refine ⟨h.os, h.tape, h.output, ?_, fun k hk hm => ?_⟩
 ·have : (w.setCell p u).heap.size = w.heap.size := by show (w.heap.modify _ _).size = _; rw [Array.size_modify]
  rw [this]; exact h.size
 ·rw [Below.heap_setCell w p u k (fun e => by
   rcases hp with hp | hp
   ·exact hm (e ▸ hp)
   ·omega)]
  exact h.block k hk hm
theorem Turn.alloc {M : Nat → Prop} {a w : World} (h : Turn M a w) (o : Obj) : Turn M a (w.alloc o) :=
 ⟨h.os, h.tape, h.output, Nat.le_trans h.size (by simp), fun k hk hm => (Below.heap_alloc w o k (Nat.lt_of_lt_of_le hk h.size)).trans (h.block k hk hm)⟩
theorem Grows.refl (M : Nat → Prop) (w : World) : Grows M M w w := ⟨Turn.refl M w, fun _ h => .inl h⟩
theorem Grows.trans {M M' M'' : Nat → Prop} {a b c : World} (h : Grows M M' a b) (k : Grows M' M'' b c) : Grows M M'' a c := by
 refine ⟨⟨k.1.os.trans h.1.os, k.1.tape.trans h.1.tape, k.1.output.trans h.1.output, Nat.le_trans h.1.size k.1.size, fun i hi hm => ?_⟩, fun x hx => ?_⟩
 ·refine (k.1.block i (Nat.lt_of_lt_of_le hi h.1.size) (fun hm' => ?_)).trans (h.1.block i hi hm)
  rcases h.2 i hm' with h' | h'
  ·exact hm h'
  ·omega
 ·rcases k.2 x hx with h' | h'
  ·exact h.2 x h'
  ·exact .inr (Nat.le_trans h.1.size h')
theorem Grows.of_below {M : Nat → Prop} {w w' : World} (h : Below w.heap.size w w') : Grows M M w w' := ⟨Turn.of_below h, fun _ h => .inl h⟩
/-! ## A tree -/
structure Ent where
 par : Int
 d : NodeD
 kids : List Int
structure Lay where
 nb : Int → Nat
 att : Int → Value
 kid : Int → Value
def nodeC (id : Int) (e : Ent) (a k : Value) : Array Value := #[.int .i64 id, .int .i64 e.par, .int .i64 e.d.kind, .int .i64 0, strV e.d.name, strV e.d.text, a, k]
def treeC (mb : Nat) (root next : Int) : Array Value := #[.map (some mb), .int .i64 root, .int .i64 next]
def attRow (w : World) (v : Value) (l : List AttrD) : Prop := w.ownsRow 0 66 2 v l.length (l.flatMap cellsA)
def intRow (w : World) (v : Value) (l : List Int) : Prop := w.ownsRow 0 3 1 v l.length (l.map (Value.int .i64))
def Apart (v v' : Value) : Prop := v.ownBlock = none ∨ v.ownBlock ≠ v'.ownBlock
structure TreeAt (w : World) (t mb : Nat) (y : Lay) (g : Int → Option Ent) (root next : Int) (n : Nat) : Prop where
 tree : w.heap[t]? = some (.cells (treeC mb root next) 75 (0, 0))
 map : MapG w mb (fun id => (g id).map fun _ => y.nb id) n
 node : ∀ id e, g id = some e → w.heap[y.nb id]? = some (.cells (nodeC id e (y.att id) (y.kid id)) 92 (0, 0))
 att : ∀ id e, g id = some e → attRow w (y.att id) e.d.attrs
 kid : ∀ id e, g id = some e → intRow w (y.kid id) e.kids
 apart : ∀ id id' e e', g id = some e → g id' = some e' → id ≠ id' → y.nb id ≠ y.nb id' ∧ Apart (y.att id) (y.att id') ∧ Apart (y.kid id) (y.kid id')
def Mine (t mb : Nat) (y : Lay) (g : Int → Option Ent) (b : Nat) : Prop := b = t ∨ b = mb ∨ ∃ id e, g id = some e ∧ (b = y.nb id ∨ (y.att id).ownBlock = some b ∨ (y.kid id).ownBlock = some b)
theorem row_block {w w' : World} {B : Nat} {e : TypeId} {size : Nat} {v : Value} {n : Nat} {xs : List Value} (h : w.ownsRow B e size v n xs) (hk : ∀ b, v.ownBlock = some b → w'.heap[b]? = w.heap[b]?) : w'.ownsRow B e size v n xs := by
 refine ⟨h.1, ?_⟩
 rcases h.2 with hn | ⟨g, cap, cur, rfl, h1, h2, rest⟩
 ·exact .inl hn
 ·exact .inr ⟨g, cap, cur, rfl, h1, by rw [hk g rfl]; exact h2, rest⟩
theorem row_lt {w : World} {B : Nat} {e : TypeId} {size : Nat} {v : Value} {n : Nat} {xs : List Value} (h : w.ownsRow B e size v n xs) {b : Nat} (hb : v.ownBlock = some b) : b < w.heap.size := (h.lt b hb).2
theorem row_type {w : World} {B : Nat} {e : TypeId} {size : Nat} {v : Value} {n : Nat} {xs : List Value} (h : w.ownsRow B e size v n xs) {b : Nat} (hb : v.ownBlock = some b) : ∃ cur, w.heap[b]? = some (.cells cur e (0, 0)) := (own_type h b hb).2.2
theorem row_not {w : World} {B : Nat} {e : TypeId} {size : Nat} {v : Value} {n : Nat} {xs : List Value} (h : w.ownsRow B e size v n xs) {b : Nat} {o : Obj} (ho : w.heap[b]? = some o) (hne : ∀ cur, o ≠ .cells cur e (0, 0)) : v.ownBlock ≠ some b := fun hb => by
 obtain ⟨cur, hc⟩ := row_type h hb
 rw [ho] at hc
 injection hc with hc
 exact hne cur hc
section
variable {w : World} {t mb : Nat} {y : Lay} {g : Int → Option Ent} {root next : Int} {n : Nat}
theorem TreeAt.lt (h : TreeAt w t mb y g root next n) {b : Nat} (hb : Mine t mb y g b) : b < w.heap.size := by
 rcases hb with rfl | rfl | ⟨id, e, he, rfl | hb | hb⟩
 ·exact (Array.getElem?_eq_some_iff.1 h.tree).1
 ·exact h.map.lt
 ·exact (Array.getElem?_eq_some_iff.1 (h.node id e he)).1
 ·exact row_lt (h.att id e he) hb
 ·exact row_lt (h.kid id e he) hb
theorem TreeAt.keep {w' : World} (h : TreeAt w t mb y g root next n) (hk : ∀ b, Mine t mb y g b → w'.heap[b]? = w.heap[b]?) : TreeAt w' t mb y g root next n where
 tree := by rw [hk t (.inl rfl)]; exact h.tree
 map := h.map.keep (hk mb (.inr (.inl rfl)))
 node := fun id e he => by rw [hk _ (.inr (.inr ⟨id, e, he, .inl rfl⟩))]; exact h.node id e he
 att := fun id e he => row_block (h.att id e he) fun b hb => hk b (.inr (.inr ⟨id, e, he, .inr (.inl hb)⟩))
 kid := fun id e he => row_block (h.kid id e he) fun b hb => hk b (.inr (.inr ⟨id, e, he, .inr (.inr hb)⟩))
 apart := h.apart
theorem TreeAt.below {w' : World} (h : TreeAt w t mb y g root next n) (hb : Below w.heap.size w w') : TreeAt w' t mb y g root next n := h.keep fun b hm => hb.block b (h.lt hm)
theorem TreeAt.turn {w' : World} {M : Nat → Prop} (h : TreeAt w t mb y g root next n) (ht : Turn M w w') (hm : ∀ b, Mine t mb y g b → ¬ M b) : TreeAt w' t mb y g root next n := h.keep fun b hb => ht.block b (h.lt hb) (hm b hb)
theorem TreeAt.t_not (h : TreeAt w t mb y g root next n) : t ≠ mb ∧ ∀ id e, g id = some e → t ≠ y.nb id ∧ (y.att id).ownBlock ≠ some t ∧ (y.kid id).ownBlock ≠ some t := by
 obtain ⟨es, clock, hm⟩ := h.map.obj
 refine ⟨fun e => ?_, fun id e he => ⟨fun e' => ?_, row_not (h.att id e he) h.tree (fun cur hc => ?_), row_not (h.kid id e he) h.tree (fun cur hc => ?_)⟩⟩
 ·have := h.tree; rw [e, hm] at this; injection this with this; cases this
 ·have := h.tree; rw [e', h.node id e he] at this; injection this with this; injection this with _ this; revert this; decide
 ·injection hc with _ hc; revert hc; decide
 ·injection hc with _ hc; revert hc; decide
theorem TreeAt.mb_not (h : TreeAt w t mb y g root next n) : ∀ id e, g id = some e → mb ≠ y.nb id ∧ (y.att id).ownBlock ≠ some mb ∧ (y.kid id).ownBlock ≠ some mb := by
 obtain ⟨es, clock, hm⟩ := h.map.obj
 refine fun id e he => ⟨fun e' => ?_, row_not (h.att id e he) hm (fun cur hc => ?_), row_not (h.kid id e he) hm (fun cur hc => ?_)⟩
 ·have := h.node id e he; rw [← e', hm] at this; injection this with this; cases this
 ·cases hc
 ·cases hc
theorem TreeAt.nb_not (h : TreeAt w t mb y g root next n) {p : Int} {e : Ent} (hp : g p = some e) : ∀ id e', g id = some e' → (y.att id).ownBlock ≠ some (y.nb p) ∧ (y.kid id).ownBlock ≠ some (y.nb p) := by
 refine fun id e' he => ⟨row_not (h.att id e' he) (h.node p e hp) (fun cur hc => ?_), row_not (h.kid id e' he) (h.node p e hp) (fun cur hc => ?_)⟩
 ·injection hc with _ hc; revert hc; decide
 ·injection hc with _ hc; revert hc; decide
theorem TreeAt.rows_not (h : TreeAt w t mb y g root next n) : ∀ id e id' e', g id = some e → g id' = some e' → ∀ b, (y.att id).ownBlock = some b → (y.kid id').ownBlock ≠ some b := by
 intro id e id' e' he he' b hb hb'
 obtain ⟨c1, h1⟩ := row_type (h.att id e he) hb
 obtain ⟨c2, h2⟩ := row_type (h.kid id' e' he') hb'
 rw [h1] at h2
 injection h2 with h2; injection h2 with _ h2; revert h2; decide
end
end
section
open Go.RowKit
def Keep (N : Nat) (Fp : Nat → Prop) (A B : World) : Prop := Turn (fun b => N ≤ b ∧ ¬ Fp b) A B
def StabF (N : Nat) (Fp : Nat → Prop) (p : World → Prop) : Prop := ∀ A B, p A → Keep N Fp A B → p B
def Left (Fp : Nat → Prop) (W : World) (p : (Nat → Prop) → World → Prop) (W' : World) : Prop := ∃ Fp', Grows Fp Fp' W W' ∧ (∀ b, Fp' b → b < W'.heap.size) ∧ p Fp' W'
theorem Keep.of_below {N : Nat} {Fp : Nat → Prop} {A B : World} (h : Below A.heap.size A B) : Keep N Fp A B := Turn.of_below h
theorem Keep.block {N : Nat} {Fp : Nat → Prop} {A B : World} (h : Keep N Fp A B) {k : Nat} (hk : k < A.heap.size) (hn : k < N ∨ Fp k) : B.heap[k]? = A.heap[k]? := Turn.block h k hk (fun ⟨q1, q2⟩ => by rcases hn with h | h; omega; exact q2 h)
def IterG {α : Type} (P : Program) (gf : Nat) (lb : Array Value) (encs : α → Array Value) (xs : List α) (D : Nat → Prop) (w : World) : Prop :=
 ∀ (n l : Nat) (J : Nat → (Nat → Prop) → World → Prop) (Jx : (Nat → Prop) → World → Prop) (W : World) (Fp0 : Nat → Prop),
  (∀ b, D b → b < w.heap.size ∧ W.heap[b]? = w.heap[b]?) → w.heap.size ≤ W.heap.size → (∀ b, Fp0 b → b < W.heap.size ∧ ¬ D b) →
  (∀ i Fp, StabF W.heap.size Fp (J i Fp)) → (∀ Fp, StabF W.heap.size Fp (Jx Fp)) →
  (∀ i x Fp W1, xs[i]? = some x → J i Fp W1 → W.heap.size ≤ W1.heap.size → (∀ b, Fp b → b < W1.heap.size) → YieldAt Fence.wide n P l (encs x) W1 fun e W' =>
   (e = .returned (.bool true) ∧ Left Fp W1 (J (i + 1)) W') ∨ (e = .returned (.bool false) ∧ Left Fp W1 Jx W')) →
  J 0 Fp0 W → CallsIn Fence.wide n P gf (#[.func (.yield l) #[] #[]] ++ lb) W fun e W' => (∃ v, e = .returned v) ∧ (Left Fp0 W (J xs.length) W' ∨ Left Fp0 W Jx W')
def bodyR (I : Nat → (Nat → Prop) → World → Prop) (Ix : Code → (Nat → Prop) → World → Prop) (i : Nat) (Fp : Nat → Prop) (W : World) : Exit → Act → World → Prop
 | .normal, _, W' => Left Fp W (I (i + 1)) W'
 | .ret, _, W' => Left Fp W (Ix .ret) W'
 | .exit id, _, W' => Left Fp W (Ix (.exit id)) W'
 | .goto t, _, W' => Left Fp W (Ix (.goto t)) W'
 | .panic _, _, _ => False
 | .outgrown, _, _ => False
theorem putObj_turn {M : Nat → Prop} {l : Nat} (W : World) (o : Obj) (h : M l) : Turn M W (W.putObj l o) := ⟨rfl, rfl, rfl, by simp, fun _ _ hm => World.putObj_heap_other (fun e => hm (e ▸ h))⟩
theorem RoundIn.anyD {m m' : Nat} {P : Program} {l : Nat} {f : FuncId} {tmps : Array Value} {assign body : Code} {w : World} {R : Ending → World → Prop}
  (h : RoundIn Fence.wide m P l f tmps assign body w R) : RoundIn Fence.wide m' P l f tmps assign body w R := ⟨h.1, fun c cs _ => h.2 c cs (room_wide _)⟩
theorem RoundIn.inR {m m' : Nat} {P : Program} {l : Nat} {f : FuncId} {tmps : Array Value} {assign body : Code} {w : World} {R : Ending → World → Prop} (l' : Nat)
  (h : RoundIn Fence.wide m P l f tmps assign body w R) : RoundIn (Fence.wide.inRound l') m' P l f tmps assign body w R := RoundIn.anyD (m' := m') h
theorem CallsIn.anyD {m m' : Nat} {P : Program} {f : FuncId} {args : Array Value} {w : World} {R : Ending → World → Prop} (h : CallsIn Fence.wide m P f args w R) : CallsIn Fence.wide m' P f args w R := callsIn_wide.2 (callsIn_wide.1 h)
theorem range_law {α : Type} {P : Program} {n : Nat} {g : Operand} {ps : Array Tmp} {assign body : Code} {Q : Exit → Act → World → Prop} {a : Act} {w : World}
  {gf : Nat} {lb : Array Value} (hg : a.eval g = .func (.func gf) #[] lb) (eg : ∀ args w, (callFunc gf args).run P w = .ok (.enter gf args) w)
  {xs : List α} {encs : α → Array Value} {D : Nat → Prop} {w0 : World} (hit : IterG P gf lb encs xs D w0) (hD : ∀ b, D b → b < w0.heap.size ∧ w.heap[b]? = w0.heap[b]?) (hsz : w0.heap.size ≤ w.heap.size)
  (hps : ∀ x, (encs x).size = ps.size) (F0 : Nat → Prop) (hC : ∀ b, F0 b → b < w.heap.size ∧ ¬ D b)
  (I : Nat → (Nat → Prop) → World → Prop) (Ix : Code → (Nat → Prop) → World → Prop) (hI : ∀ i Fp, StabF w.heap.size Fp (I i Fp)) (hIx : ∀ c Fp, StabF w.heap.size Fp (Ix c Fp)) (h0 : I 0 F0 w) (a₁ : α → Act)
  (hassign : ∀ (l : Nat) (x : α) (W : World) (K : Act → World → Prop), K (a₁ x) W → assign.wpIn (Fence.wide.inRound l) n P (Exit.then K (fun _ _ _ => False)) { tmps := (ps.zip (encs x)).foldl (fun t (p, v) => t.setIfInBounds p v) a.tmps, defers := [] } W)
  (hbody : ∀ (l i : Nat) (x : α) (Fp : Nat → Prop) (W : World), xs[i]? = some x → I i Fp W → w.heap.size ≤ W.heap.size → (∀ b, Fp b → b < W.heap.size) → body.wpIn (Fence.wide.inRound l) n P (bodyR I Ix i Fp W) (a₁ x) W)
  (hdone : ∀ (W : World), Left F0 w (fun Fp V => I xs.length Fp V ∧ ¬ Fp w.heap.size) W → W.heap[w.heap.size]? = some (.deferred (some [])) → Q .normal { a with defers := { target := .collected w.heap.size, args := #[] } :: a.defers } W)
  (hstop : ∀ (c : Code) (W : World), Left F0 w (fun Fp V => Ix c Fp V ∧ ¬ Fp w.heap.size) W → W.heap[w.heap.size]? = some (.deferred (some [])) → c.wpIn Fence.wide n P Q { a with defers := { target := .collected w.heap.size, args := #[] } :: a.defers } W) :
  (Code.rangeFunc g ps assign body).wpIn Fence.wide n P Q a w := by
 refine wpIn_rangeFunc ?_
 intro fn hfn
 obtain ⟨q, hq⟩ : ∃ q, q = w.heap.size := ⟨_, rfl⟩
 obtain ⟨rec, hrec⟩ : ∃ rec : LoopState → Option Code → Loop, rec = fun st pe => { state := st, pending := pe, fn, tmps := a.tmps, params := ps, assign, body, defers := w.heap.size } := ⟨_, rfl⟩
 obtain ⟨W1, hW1⟩ : ∃ W1, (w.alloc (.deferred (some []))).alloc (.loop (rec .ready none)) = W1 := ⟨_, rfl⟩
 have hz1 : W1.heap.size = q + 2 := by rw [← hW1, hq]; simp
 have hL1 : W1.heap[q + 1]? = some (.loop (rec .ready none)) := by
  rw [← hW1, hq]; have := World.alloc_heap_new (w.alloc (.deferred (some []))) (.loop (rec .ready none)); rwa [World.size_alloc] at this
 have hK1 : W1.heap[q]? = some (.deferred (some [])) := by
  rw [← hW1, hq]; exact (Below.heap_alloc _ _ _ (by simp)).trans (World.alloc_heap_new w _)
 have hb1 : Below w.heap.size w W1 := by rw [← hW1]; exact ((Below.refl _ w).alloc (Nat.le_refl _) _).alloc (by simp) _
 -- the loop's own word, beside the caller's
 let Z (p : (Nat → Prop) → World → Prop) (st : LoopState) (pe : Option Code) (Fi : Nat → Prop) (W : World) : Prop :=
  ∃ Fb : Nat → Prop, (∀ b, Fi b ↔ Fb b ∨ b = q + 1) ∧ (∀ b, Fb b → b ≠ q + 1 ∧ b ≠ q) ∧ Grows F0 Fb w W ∧ (∀ b, Fb b → b < W.heap.size) ∧ p Fb W ∧ W.heap[q + 1]? = some (.loop (rec st pe)) ∧ W.heap[q]? = some (.deferred (some []))
 have stabZ : ∀ (p : (Nat → Prop) → World → Prop) st pe Fi, (∀ Fb, StabF w.heap.size Fb (p Fb)) → StabF W1.heap.size Fi (Z p st pe Fi) := by
  rintro p st pe Fi hp A B ⟨Fb, e1, e2, e3, e4, e5, e6, e7⟩ hk
  have hz6 := (Array.getElem?_eq_some_iff.1 e6).1
  have hz7 := (Array.getElem?_eq_some_iff.1 e7).1
  have hk' : Turn (fun b => w.heap.size ≤ b ∧ ¬ Fb b) A B := hk.mono fun b ⟨q1, q2⟩ => ⟨by omega, fun h => q2 ((e1 b).2 (.inl h))⟩
  refine ⟨Fb, e1, e2, ⟨⟨hk.os.trans e3.1.os, hk.tape.trans e3.1.tape, hk.output.trans e3.1.output, Nat.le_trans e3.1.size hk.size, fun b hb hf => ?_⟩, e3.2⟩, fun b hb => Nat.lt_of_lt_of_le (e4 b hb) hk.size, hp Fb A B e5 hk', (Keep.block hk hz6 (.inl (by omega))).trans e6, (Keep.block hk hz7 (.inl (by omega))).trans e7⟩
  exact (Keep.block hk (Nat.lt_of_lt_of_le hb e3.1.size) (.inl (by omega))).trans (e3.1.block b hb hf)
 refine ⟨q + 1, [{ target := .collected q, args := #[] }], W1, { target := .fn (.func gf) lb, args := #[.func (.yield (q + 1)) #[] #[]] }, W1, gf,
  #[.func (.yield (q + 1)) #[] #[]] ++ lb, W1, ?_, ?_, ?_, ?_, fun h => (by cases h), ?_⟩
 ·rw [← hW1, hrec, hq]; exact run_enterLoop_outer _ _ _ _ _
 ·simp only [resolve, hg]
  simp [go_sem]
 ·intro f' _; trivial
 ·simp [invoke, go_sem, eg]
 ·have start : ∀ p : (Nat → Prop) → World → Prop, (∀ Fb, StabF w.heap.size Fb (p Fb)) → p F0 w → Z p .ready none (fun b => F0 b ∨ b = q + 1) W1 := fun p hp hp0 =>
   ⟨F0, fun b => Iff.rfl, fun b hb => by have := (hC b hb).1; omega, ⟨Turn.of_below hb1, fun b hb => .inl hb⟩, fun b hb => by have := (hC b hb).1; omega, hp F0 w W1 hp0 (Keep.of_below hb1), hL1, hK1⟩
  refine (hit (n - 1) (q + 1) (fun i => Z (I i) .ready none) (fun Fi W => ∃ c, Z (Ix c) .done (some c) Fi W) W1 (fun b => F0 b ∨ b = q + 1) (fun b hb => ?_) (by omega) (fun b hb => ?_)
   (fun i Fi => stabZ _ _ _ Fi (hI i)) (fun Fi A B ⟨c, ha⟩ hb => ⟨c, stabZ _ _ _ Fi (hIx c) A B ha hb⟩) ?_ (start _ (hI 0) h0)).mono ?_
  ·obtain ⟨q1, q2⟩ := hD b hb
   exact ⟨q1, (hb1.block b (by omega)).trans q2⟩
  ·rcases hb with hb | rfl
   ·obtain ⟨q1, q2⟩ := hC b hb
    exact ⟨by omega, q2⟩
   ·exact ⟨by omega, fun hd => by have := (hD _ hd).1; omega⟩
  ·rintro i x Fi W hx ⟨Fb, e1, e2, e3, e4, hi, hl, hk⟩ hsw hFi
   have hlt : q + 1 < W.heap.size := (Array.getElem?_eq_some_iff.1 hl).1
   have hy := run_yield (P := P) (args := encs x) hl (by rw [hrec]; exact hps x)
   rw [hrec] at hy
   refine ⟨fn, _, assign, body, hy, RoundIn.anyD (roundIn_of_wpIn hfn (hassign _ x W _ ?_))⟩
   clear hy
   refine ⟨_, run_beginRound hl (by rw [hrec]), ?_⟩
   obtain ⟨W2, hW2⟩ : ∃ W2, W2 = W.putObj (q + 1) (.loop { rec .ready none with state := .busy }) := ⟨_, rfl⟩
   have hl2 : W2.heap[q + 1]? = some (.loop { rec .ready none with state := .busy }) := by rw [hW2]; exact World.putObj_heap_same hlt
   have hk2 : W2.heap[q]? = some (.deferred (some [])) := by rw [hW2]; exact (World.putObj_heap_other (by omega)).trans hk
   have hz2 : W2.heap.size = W.heap.size := by rw [hW2]; simp
   have ht2 : Turn Fi W W2 := by rw [hW2]; exact putObj_turn W _ ((e1 _).2 (.inr rfl))
   have kp : ∀ (p : (Nat → Prop) → World → Prop) (Fb' : Nat → Prop) (V : World) (o : Obj), (∀ F, StabF w.heap.size F (p F)) → (∀ b, Fb' b → b ≠ q + 1) → p Fb' V → p Fb' (V.putObj (q + 1) o) := fun p Fb' V o hp hne hv =>
    hp Fb' V _ hv (putObj_turn V o ⟨by omega, fun h => hne _ h rfl⟩)
   have hi2 : I i Fb W2 := by rw [hW2]; exact kp _ _ _ _ (hI i) (fun b hb => (e2 b hb).1) hi
   rw [← hW2]
   refine wpIn_mono (hbody _ i x Fb W2 hx hi2 (by omega) (fun b hb => by rw [hz2]; exact e4 b hb)) ?_
   have fin : ∀ (p : (Nat → Prop) → World → Prop) (jump : Option Code) (W3 : World), (∀ F, StabF w.heap.size F (p F)) → Left Fb W2 p W3 →
     (Instr.endRound (q + 1) jump).run P W3 = .ok (.bool jump.isNone) (W3.putObj (q + 1) (.loop (rec (if jump.isNone then .ready else .done) jump))) ∧
     Left Fi W (Z p (if jump.isNone then .ready else .done) jump) (W3.putObj (q + 1) (.loop (rec (if jump.isNone then .ready else .done) jump))) := by
    rintro p jump W3 hp ⟨Fb', g1, g2, g3⟩
    have hcn : ∀ b, Fb' b → b ≠ q + 1 ∧ b ≠ q := fun b hb => by
     rcases g1.2 b hb with h | h
     ·exact e2 b h
     ·omega
    have hl3 : W3.heap[q + 1]? = some (.loop { rec .ready none with state := .busy }) := (g1.1.block _ (by omega) (fun h => (e2 _ h).1 rfl)).trans hl2
    have hk3 : W3.heap[q]? = some (.deferred (some [])) := (g1.1.block _ (by omega) (fun h => (e2 _ h).2 rfl)).trans hk2
    have hz3 := (Array.getElem?_eq_some_iff.1 hl3).1
    have hrun := run_endRound (P := P) jump hl3
    refine ⟨by rw [hrec] at hrun ⊢; exact hrun, fun b => Fb' b ∨ b = q + 1, ⟨?_, fun b hb => ?_⟩, fun b hb => ?_, Fb', fun b => Iff.rfl, hcn, ?_, fun b hb => by simp; exact g2 b hb, kp _ _ _ _ hp (fun b hb => (hcn b hb).1) g3, World.putObj_heap_same hz3, (World.putObj_heap_other (by omega)).trans hk3⟩
    ·have t3 : Turn Fi W2 W3 := g1.1.mono fun b hb => (e1 b).2 (.inl hb)
     exact (ht2.trans t3).trans (putObj_turn W3 _ ((e1 _).2 (.inr rfl)))
    ·rcases hb with hb | rfl
     ·rcases g1.2 b hb with h | h
      ·exact .inl ((e1 b).2 (.inl h))
      ·exact .inr (by omega)
     ·exact .inl ((e1 _).2 (.inr rfl))
    ·rcases hb with hb | rfl
     ·simp; exact g2 b hb
     ·simp; exact hz3
    ·have s1 : Grows F0 Fb w W2 := by
      rw [hW2]
      exact ⟨⟨e3.1.os, e3.1.tape, e3.1.output, by simp; exact e3.1.size, fun b hb hf => (World.putObj_heap_other (by omega)).trans (e3.1.block b hb hf)⟩, e3.2⟩
     have s2 := s1.trans g1
     exact ⟨⟨s2.1.os, s2.1.tape, s2.1.output, by simp; exact s2.1.size, fun b hb hf => (World.putObj_heap_other (by omega)).trans (s2.1.block b hb hf)⟩, s2.2⟩
   rintro e a3 W3 hp
   cases e with
   | normal =>
    obtain ⟨hr, hl4⟩ := fin _ none W3 (hI _) hp
    exact ⟨_, _, hr, .inl ⟨rfl, hl4⟩⟩
   | ret =>
    obtain ⟨hr, Fp', h1, h2, h3⟩ := fin _ (some .ret) W3 (hIx _) hp
    exact ⟨_, _, hr, .inr ⟨rfl, Fp', h1, h2, _, h3⟩⟩
   | exit id =>
    obtain ⟨hr, Fp', h1, h2, h3⟩ := fin _ (some (.exit id)) W3 (hIx _) hp
    exact ⟨_, _, hr, .inr ⟨rfl, Fp', h1, h2, _, h3⟩⟩
   | goto t =>
    obtain ⟨hr, Fp', h1, h2, h3⟩ := fin _ (some (.goto t)) W3 (hIx _) hp
    exact ⟨_, _, hr, .inr ⟨rfl, Fp', h1, h2, _, h3⟩⟩
   | panic ch => exact hp.elim
   | outgrown => exact hp.elim
  ·have out : ∀ (p : (Nat → Prop) → World → Prop) st pe Fi (W2 : World) (o : Obj), (∀ F, StabF w.heap.size F (p F)) → Z p st pe Fi W2 → Left F0 w (fun Fp V => p Fp V ∧ ¬ Fp w.heap.size) (W2.putObj (q + 1) o) ∧ (W2.putObj (q + 1) o).heap[w.heap.size]? = some (.deferred (some [])) := by
    rintro p st pe Fi W2 o hp ⟨Fb, e1, e2, e3, e4, e5, e6, e7⟩
    refine ⟨⟨Fb, ⟨⟨e3.1.os, e3.1.tape, e3.1.output, by simp; exact e3.1.size, fun b hb hf => (World.putObj_heap_other (by omega)).trans (e3.1.block b hb hf)⟩, e3.2⟩, fun b hb => by simp; exact e4 b hb, hp Fb W2 _ e5 (putObj_turn W2 o ⟨by omega, fun h => (e2 _ h).1 rfl⟩), fun h => (e2 _ h).2 hq.symm⟩, ?_⟩
    rw [← hq]; exact (World.putObj_heap_other (by omega)).trans e7
   rintro e W2 ⟨⟨v, rfl⟩, (⟨Fi, _, _, hz⟩ | ⟨Fi, _, _, c, hz⟩)⟩
   ·have hl := hz
    obtain ⟨_, _, _, _, _, _, hl, _⟩ := hl
    obtain ⟨o1, o2⟩ := out _ _ _ _ _ (.loop { rec .ready none with state := .exhausted }) (hI _) hz
    rw [hq]
    exact ⟨none, _, by have := run_endLoop (P := P) hl (by rw [hrec]; simp); rw [hrec] at this; rw [← hq]; exact this, hdone _ (by rw [hrec] at o1; exact o1) (by rw [hrec] at o2; exact o2)⟩
   ·have hl := hz
    obtain ⟨_, _, _, _, _, _, hl, _⟩ := hl
    obtain ⟨o1, o2⟩ := out _ _ _ _ _ (.loop { rec .done (some c) with state := .exhausted }) (hIx c) hz
    rw [hq]
    exact ⟨some c, _, by have := run_endLoop (P := P) hl (by rw [hrec]; simp); rw [hrec] at this; rw [← hq]; exact this, hstop c _ (by rw [hrec] at o1; exact o1) (by rw [hrec] at o2; exact o2)⟩
end
section
open Go.RowKit
theorem cell_row {w : World} {b : Nat} {cur : Array Value} {T : TypeId} (h : w.heap[b]? = some (.cells cur T (0, 0))) (j : Nat) (v : Value) (hv : cur[j]? = some v) : w.cell? ⟨b, j, none⟩ = some v := by simp [World.cell?, h, hv]
theorem free_row {w : World} {b : Nat} {cur : Array Value} {T : TypeId} (h : w.heap[b]? = some (.cells cur T (0, 0))) (j : Nat) : w.frozen? ⟨b, j, none⟩ = false := by simp [World.frozen?, h]
section
variable {w : World} {t mb : Nat} {y : Lay} {g : Int → Option Ent} {root next : Int} {n : Nat}
theorem TreeAt.c0 (h : TreeAt w t mb y g root next n) : w.cell? ⟨t, 0, none⟩ = some (.map (some mb)) := cell_row h.tree 0 _ rfl
theorem TreeAt.c1 (h : TreeAt w t mb y g root next n) : w.cell? ⟨t, 1, none⟩ = some (.int .i64 root) := cell_row h.tree 1 _ rfl
theorem TreeAt.c2 (h : TreeAt w t mb y g root next n) : w.cell? ⟨t, 2, none⟩ = some (.int .i64 next) := cell_row h.tree 2 _ rfl
theorem TreeAt.look_yes (h : TreeAt w t mb y g root next n) {id : Int} {e : Ent} (he : g id = some e) (hw : wfI id) :
  (Instr.lookup 73 (.map (some mb)) (.int .i64 id) true).run Tryz.prog w = .ok (.tuple #[.pointer (some ⟨y.nb id, 0, none⟩), .bool true]) w ∧
  (Instr.lookup 73 (.map (some mb)) (.int .i64 id) false).run Tryz.prog w = .ok (.pointer (some ⟨y.nb id, 0, none⟩)) w := by
 have h1 := h.map.look_ok hw
 have h2 := h.map.look hw
 simp only [he, Option.map_some, Option.isSome_some] at h1 h2
 exact ⟨h1, h2⟩
theorem TreeAt.look_no (h : TreeAt w t mb y g root next n) {id : Int} (he : g id = none) (hw : wfI id) :
  (Instr.lookup 73 (.map (some mb)) (.int .i64 id) true).run Tryz.prog w = .ok (.tuple #[.pointer none, .bool false]) w ∧
  (Instr.lookup 73 (.map (some mb)) (.int .i64 id) false).run Tryz.prog w = .ok (.pointer none) w := by
 have h1 := h.map.look_ok hw
 have h2 := h.map.look hw
 simp only [he, Option.map_none, Option.isSome_none] at h1 h2
 exact ⟨h1, h2⟩
theorem TreeAt.n0 (h : TreeAt w t mb y g root next n) {id : Int} {e : Ent} (he : g id = some e) : w.cell? ⟨y.nb id, 0, none⟩ = some (.int .i64 id) := cell_row (h.node id e he) 0 _ rfl
theorem TreeAt.n1 (h : TreeAt w t mb y g root next n) {id : Int} {e : Ent} (he : g id = some e) : w.cell? ⟨y.nb id, 1, none⟩ = some (.int .i64 e.par) := cell_row (h.node id e he) 1 _ rfl
theorem TreeAt.n2 (h : TreeAt w t mb y g root next n) {id : Int} {e : Ent} (he : g id = some e) : w.cell? ⟨y.nb id, 2, none⟩ = some (.int .i64 e.d.kind) := cell_row (h.node id e he) 2 _ rfl
theorem TreeAt.n4 (h : TreeAt w t mb y g root next n) {id : Int} {e : Ent} (he : g id = some e) : w.cell? ⟨y.nb id, 4, none⟩ = some (.string ⟨e.d.name.toArray⟩) := cell_row (h.node id e he) 4 _ rfl
theorem TreeAt.n5 (h : TreeAt w t mb y g root next n) {id : Int} {e : Ent} (he : g id = some e) : w.cell? ⟨y.nb id, 5, none⟩ = some (.string ⟨e.d.text.toArray⟩) := cell_row (h.node id e he) 5 _ rfl
theorem TreeAt.n6 (h : TreeAt w t mb y g root next n) {id : Int} {e : Ent} (he : g id = some e) : w.cell? ⟨y.nb id, 6, none⟩ = some (y.att id) := cell_row (h.node id e he) 6 _ rfl
theorem TreeAt.n7 (h : TreeAt w t mb y g root next n) {id : Int} {e : Ent} (he : g id = some e) : w.cell? ⟨y.nb id, 7, none⟩ = some (y.kid id) := cell_row (h.node id e he) 7 _ rfl
end
theorem row_shape {w : World} {e : TypeId} {size : Nat} {v : Value} {n : Nat} {xs : List Value} (h : w.ownsRow 0 e size v n xs) : ∃ (A : Option Addr) (c : Nat), v = .slice A n c ∧ n ≤ c ∧ c ≤ maxLen ∧ (A = none → n = 0 ∧ c = 0) ∧ (∀ ad, A = some ad → ∃ g, ad = ⟨g, 0, none⟩ ∧ g < w.heap.size) := by
 rcases h.2 with ⟨rfl, rfl⟩ | ⟨g, cap, cur, rfl, h1, h2, h3, h4, h5, h6⟩
 ·exact ⟨none, 0, rfl, Nat.le_refl _, by decide, fun _ => ⟨rfl, rfl⟩, fun _ h => by cases h⟩
 ·exact ⟨some ⟨g, 0, none⟩, cap, rfl, h3, h4, fun h => (by cases h), fun ad e => ⟨g, (by injection e with e; exact e.symm), (Array.getElem?_eq_some_iff.1 h2).1⟩⟩
theorem New_any (w : World) : Calls Tryz.prog 10 #[] w fun e w' => e = .returned (.pointer (some ⟨w.heap.size + 1, 0, none⟩)) ∧ Below w.heap.size w w' ∧ ∃ y, TreeAt w' (w.heap.size + 1) w.heap.size y (fun _ => none) 0 1 0 := by
 have hmm := @run_makeMap Tryz.prog
 go_enter Tryz.func10, Tryz.ntmps10
 go_wp2_with fail
 go_ret
 refine ⟨rfl, ((Below.refl _ w).alloc (Nat.le_refl _) _).alloc (by simp) _, ⟨fun _ => 0, fun _ => .slice none 0 0, fun _ => .slice none 0 0⟩, ?_⟩
 refine ⟨?_, (MapG.new w).keep (Below.heap_alloc _ _ _ (by simp)), fun _ _ h => (by cases h), fun _ _ h => (by cases h), fun _ _ h => (by cases h), fun _ _ _ _ h => (by cases h)⟩
 exact heap_alloc2_new w _ _
section
variable {w : World} {t mb : Nat} {y : Lay} {g : Int → Option Ent} {root next : Int} {n : Nat}
theorem Root_any (h : TreeAt w t mb y g root next n) : Calls Tryz.prog 33 #[.pointer (some ⟨t, 0, none⟩)] w fun e w' => e = .returned (.int .i64 root) ∧ w = w' := by
 have c1 := h.c1
 go_enter Tryz.func33, Tryz.ntmps33
 go_wp2_with fail
 go_ret
 exact ⟨rfl, rfl⟩
theorem Next_g (h : TreeAt w t mb y g root next n) : Calls Tryz.prog 17 #[.pointer (some ⟨t, 0, none⟩)] w fun e w' => e = .returned (.int .i64 next) ∧ w = w' := by
 have c1 := h.c2
 go_enter Tryz.func17, Tryz.ntmps17
 go_wp2_with fail
 go_ret
 exact ⟨rfl, rfl⟩
theorem Len_any (h : TreeAt w t mb y g root next n) : Calls Tryz.prog 38 #[.pointer (some ⟨t, 0, none⟩)] w fun e w' => e = .returned (.int .i64 n) ∧ w = w' := by
 have c1 := h.c0
 have hl := h.map.len
 go_enter Tryz.func38, Tryz.ntmps38
 go_wp2_with fail
 go_ret
 exact ⟨rfl, rfl⟩
theorem element_no (h : TreeAt w t mb y g root next n) {id : Int} (hw : wfI id) (he : g id = none) :
  Calls Tryz.prog 57 #[.pointer (some ⟨t, 0, none⟩), .int .i64 id] w fun e w' => e = .returned (.tuple #[.pointer none, .int .i64 60]) ∧ w = w' := by
 have c0 := h.c0
 have hl := (h.look_no he hw).1
 go_enter Tryz.func57, Tryz.ntmps57
 go_wp2_with fail
 go_ret2
 exact ⟨rfl, rfl⟩
theorem element_bad (h : TreeAt w t mb y g root next n) {id : Int} {e : Ent} (hw : wfI id) (he : g id = some e) (hk : e.d.kind ≠ 1) :
  Calls Tryz.prog 57 #[.pointer (some ⟨t, 0, none⟩), .int .i64 id] w fun e w' => e = .returned (.tuple #[.pointer none, .int .i64 68]) ∧ w = w' := by
 have c0 := h.c0
 have hl := (h.look_yes he hw).1
 have c2 := h.n2 he
 have k1 : (e.d.kind != 1) = true := by simpa using hk
 go_enter Tryz.func57, Tryz.ntmps57
 go_wp2_with fail
 go_ret2
 exact ⟨rfl, rfl⟩
theorem element_yes (h : TreeAt w t mb y g root next n) {id : Int} {e : Ent} (hw : wfI id) (he : g id = some e) (hk : e.d.kind = 1) :
  Calls Tryz.prog 57 #[.pointer (some ⟨t, 0, none⟩), .int .i64 id] w fun e w' => e = .returned (.tuple #[.pointer (some ⟨y.nb id, 0, none⟩), .int .i64 0]) ∧ w = w' := by
 have c0 := h.c0
 have hl := (h.look_yes he hw).1
 have c2 := h.n2 he
 rw [hk] at c2
 go_enter Tryz.func57, Tryz.ntmps57
 go_wp2_with fail
 go_ret2
 exact ⟨rfl, rfl⟩
end
end
section
open Go.RowKit
def Lev (g : Int → Option Ent) : Nat → Int → Prop
 | 0, id => ∃ e, g id = some e ∧ e.par = 0
 | l + 1, id => ∃ e, g id = some e ∧ e.par ≠ 0 ∧ Lev g l e.par
section
variable {w : World} {t mb : Nat} {y : Lay} {g : Int → Option Ent} {root next : Int} {n : Nat}
theorem Kid_no (h : TreeAt w t mb y g root next n) {id : Int} (k : Int) (hw : wfI id) (he : g id = none) :
  Calls Tryz.prog 25 #[.pointer (some ⟨t, 0, none⟩), .int .i64 id, .int .i64 k] w fun e w' => e = .returned (.tuple #[.int .i64 0, .bool false]) ∧ w = w' := by
 have c0 := h.c0
 have hl := (h.look_no he hw).1
 go_enter Tryz.func25, Tryz.ntmps25
 go_wp2_with fail
 go_ret2
 exact ⟨rfl, rfl⟩
theorem Kid_out (h : TreeAt w t mb y g root next n) {id : Int} {e : Ent} (k : Int) (hw : wfI id) (he : g id = some e) (hk : k < 0 ∨ (e.kids.length : Int) ≤ k) :
  Calls Tryz.prog 25 #[.pointer (some ⟨t, 0, none⟩), .int .i64 id, .int .i64 k] w fun e w' => e = .returned (.tuple #[.int .i64 0, .bool false]) ∧ w = w' := by
 have c0 := h.c0
 have hl := (h.look_yes he hw).1
 have c7 := h.n7 he
 obtain ⟨A, c, hv, _, _, _, _⟩ := row_shape (h.kid id e he)
 rw [hv] at c7
 rcases hk with hk | hk
 ·go_enter Tryz.func25, Tryz.ntmps25
  go_wp2_with fail
  go_ret2
  exact ⟨rfl, rfl⟩
 ·by_cases h0 : k < 0
  ·omega
  ·have hd : decide (k < 0) = false := decide_eq_false h0
   clear h0
   go_enter Tryz.func25, Tryz.ntmps25
   go_wp2_with fail
   go_ret2
   exact ⟨rfl, rfl⟩
theorem Kid_yes (h : TreeAt w t mb y g root next n) {id : Int} {e : Ent} (k : Nat) (x : Int) (hw : wfI id) (he : g id = some e) (hk : e.kids[k]? = some x) :
  Calls Tryz.prog 25 #[.pointer (some ⟨t, 0, none⟩), .int .i64 id, .int .i64 k] w fun e w' => e = .returned (.tuple #[.int .i64 x, .bool true]) ∧ w = w' := by
 have c0 := h.c0
 have hl := (h.look_yes he hw).1
 have c7 := h.n7 he
 have hkl : k < e.kids.length := (List.getElem?_eq_some_iff.1 hk).1
 obtain ⟨A, c, hv, _, _, hA0, hA1⟩ := row_shape (h.kid id e he)
 have hrow := h.kid id e he
 unfold intRow at hrow
 rw [hv] at c7 hrow
 cases A with
 | none => have := (hA0 rfl).1; omega
 | some ad =>
  obtain ⟨b, rfl, _⟩ := hA1 ad rfl
  have cx := own_cell hrow k (.int .i64 x) (by rw [List.getElem?_map, hk]; rfl)
  have hk0 : (0 : Int) ≤ (k : Int) := by omega
  have hk1 : (k : Int) < (e.kids.length : Int) := by omega
  clear hrow hA0 hA1 hk hkl hv
  go_enter Tryz.func25, Tryz.ntmps25
  go_wp2_with fail
  go_ret2
  exact ⟨rfl, rfl⟩
theorem level_any (h : TreeAt w t mb y g root next n) (hwf : ∀ id e, g id = some e → wfI id) (L : Nat) (hL : L ≤ 1000000) (id : Int) (hlev : Lev g L id) :
  Calls Tryz.prog 59 #[.pointer (some ⟨t, 0, none⟩), .int .i64 id] w fun e w' => e = .returned (.int .i64 (L : Int)) ∧ w = w' := by
 have c0 := h.c0
 have HWF := Lib.hid hwf
 clear hwf
 go_enter Tryz.func59, Tryz.ntmps59
 go_wp2_with fail
 go_loop [1, 5] (fun i k => ∃ (x : Int) (l m : Nat), i = .int .i64 x ∧ k = .int .i64 (m : Int) ∧ m + l = L ∧ Hid (Lev g l x)) (fun _ k => L - (intOf k).toNat)
 case atStart => exact ⟨id, L, 0, rfl, by go_num, by omega, hlev⟩
 case round =>
  obtain ⟨x, l, m, rfl, rfl, hml, hlv⟩ := hrel
  cases l with
  | zero =>
   obtain ⟨e, he, hp⟩ := hlv.out
   have hl := (h.look_yes he (HWF.out x e he)).2
   have c1 := h.n1 he
   rw [hp] at c1
   have hm : m = L := by omega
   clear hlv hml hp
   subst hm
   go_wp2_with fail
   go_ret
   exact ⟨rfl, rfl⟩
  | succ l =>
   obtain ⟨e, he, hp, hlv'⟩ := hlv.out
   have hl := (h.look_yes he (HWF.out x e he)).2
   have c1 := h.n1 he
   have hp' : (e.par != 0) = true := by simpa using hp
   have HLV := Lib.hid hlv'
   have m0 : (0 : Int) ≤ (m : Int) := by omega
   clear hlv hp hlv'
   go_wp2_with fail
   go_round
   case rel => exact ⟨e.par, l, m + 1, rfl, by go_num, by omega, HLV⟩
   case measure => simp [intOf]; omega
end
end
section
open Go.RowKit Go.Shelf
attribute [local go_sem] Oper.semAt_some
def markOf (b : Nat) : Deferred := { target := .collected b, args := #[] }
theorem marks_leave {n : Nat} {P : Program} {fn : Func} {tmps : Array Value} {R : Ending → World → Prop} : ∀ (bs : List Nat) (w : World), bs.Nodup → (∀ b ∈ bs, w.heap[b]? = some (.deferred (some []))) →
  (∀ w', Turn (fun b => b ∈ bs) w w' → ∃ v, (results fn tmps).run P w' = .ok v w' ∧ R (.returned v) w') → LeavesInM Fence.wide n P fn tmps R (bs.map markOf) .returning w
 | [], w, _, _, h => h w (Turn.refl _ _)
 | b :: bs, w, hn, hb, h => by
  have q2 := hb b List.mem_cons_self
  have hn' := List.nodup_cons.1 hn
  refine ⟨by simp, .inl ⟨b, _, rfl, run_takeDeferred q2, ?_⟩⟩
  refine marks_leave bs _ hn'.2 (fun b' hb' => ?_) (fun w' hw' => h w' ((putObj_turn w _ List.mem_cons_self).trans (hw'.mono fun _ h => List.mem_cons_of_mem _ h)))
  exact (World.putObj_heap_other (fun e => hn'.1 (by rw [← e]; exact hb'))).trans (hb b' (List.mem_cons_of_mem _ hb'))
theorem left_marks {N : Nat} {Fp0 Fp : Nat → Prop} {W wr w' : World} {bs : List Nat} {p : (Nat → Prop) → World → Prop} (hg : Grows Fp0 Fp W wr) (hb : ∀ b, Fp b → b < wr.heap.size) (hN : ∀ b ∈ bs, N ≤ b ∧ W.heap.size ≤ b) (hF : ∀ b ∈ bs, ¬ Fp b)
  (ht : Turn (fun b => b ∈ bs) wr w') (hp : StabF N Fp (p Fp)) (h : p Fp wr) : Left Fp0 W p w' := by
 refine ⟨Fp, ⟨⟨ht.os.trans hg.1.os, ht.tape.trans hg.1.tape, ht.output.trans hg.1.output, Nat.le_trans hg.1.size ht.size, fun b hb1 hf => ?_⟩, hg.2⟩, fun b h1 => Nat.lt_of_lt_of_le (hb b h1) ht.size, hp wr w' h (ht.mono fun b h1 => ⟨(hN b h1).1, hF b h1⟩)⟩
 exact (ht.block b (Nat.lt_of_lt_of_le hb1 hg.1.size) (fun h1 => by have := (hN b h1).2; omega)).trans (hg.1.block b hb1 hf)
theorem grows_keep {Fp3 Fq : Nat → Prop} {W3 A B : World} {N : Nat} (h : Grows Fp3 Fq W3 A) (hN : W3.heap.size ≤ N) (hk : Keep N Fq A B) : Grows Fp3 Fq W3 B :=
 ⟨⟨hk.os.trans h.1.os, hk.tape.trans h.1.tape, hk.output.trans h.1.output, Nat.le_trans h.1.size hk.size, fun b hb hf => (Keep.block hk (Nat.lt_of_lt_of_le hb h.1.size) (.inl (by omega))).trans (h.1.block b hb hf)⟩, h.2⟩
theorem marks_on {Fq Fr : Nat → Prop} {W' W5 : World} {bs : List Nat} (h : ∀ b ∈ bs, ¬ Fq b ∧ W'.heap[b]? = some (.deferred (some []))) (hl : ∀ b ∈ bs, b < W'.heap.size) (hg : Grows Fq Fr W' W5) : ∀ b ∈ bs, ¬ Fr b ∧ W5.heap[b]? = some (.deferred (some [])) := fun b hb => by
 obtain ⟨q1, q2⟩ := h b hb
 refine ⟨fun hf => ?_, (hg.1.block b (hl b hb) q1).trans q2⟩
 rcases hg.2 b hf with h1 | h1
 ·exact q1 h1
 ·have := hl b hb; omega
/-! ## What is gone through -/
def visF : Int → Fo → List (Int × Int)
 | _, .nil => []
 | lv, .cons id _ ks r => (id, lv) :: (visF (lv + 1) ks ++ visF lv r)
def Fo.trees : Fo → List (Int × NodeD × Fo)
 | .nil => []
 | .cons id d ks r => (id, d, ks) :: trees r
theorem trees_roots : ∀ f : Fo, f.trees.map (·.1) = f.roots
 | .nil => rfl
 | .cons id d ks r => by simp [Fo.trees, Fo.roots, trees_roots r]
def visT (lv : Int) (t : Int × NodeD × Fo) : List (Int × Int) := (t.1, lv) :: visF (lv + 1) t.2.2
theorem vis_trees (lv : Int) : ∀ f : Fo, visF lv f = f.trees.flatMap (visT lv)
 | .nil => rfl
 | .cons id d ks r => by simp [visF, Fo.trees, visT, vis_trees lv r]
def Agr (g : Int → Option Ent) : Int → Fo → Prop
 | _, .nil => True
 | q, .cons id d ks r => g id = some ⟨q, d, ks.roots⟩ ∧ Agr g id ks ∧ Agr g q r
def encV (x : Int × Int) : Array Value := #[.int .i64 x.1, .int .i64 x.2]
theorem below_calls (w : World) (t : Nat) (id lv : Int) : Calls Tryz.prog 49 #[.pointer (some ⟨t, 0, none⟩), .int .i64 id, .int .i64 lv] w fun e w' =>
  e = .returned (.func (.func 78) #[] #[.pointer (some ⟨w.heap.size, 0, none⟩), .pointer (some ⟨w.heap.size + 1, 0, none⟩), .pointer (some ⟨w.heap.size + 2, 0, none⟩)]) ∧
  w' = ((w.alloc (.cells #[.pointer (some ⟨t, 0, none⟩)] 23)).alloc (.cells #[.int .i64 id] 3)).alloc (.cells #[.int .i64 lv] 3) := by
 go_enter Tryz.func49, Tryz.ntmps49
 go_wp2_with fail
 go_ret
 exact ⟨rfl, rfl⟩
theorem node_iter {t mb : Nat} {y : Lay} {g : Int → Option Ent} {root next : Int} {n : Nat} (hwf : ∀ id e, g id = some e → wfI id) (q id lv : Int) (d : NodeD) (ks : Fo)
  (hid : g id = some ⟨q, d, ks.roots⟩) (hlv : 0 ≤ lv ∧ lv ≤ 1000000)
  (hkids : ∀ (j : Nat) (k : Int) (dk : NodeD) (kk : Fo), ks.trees[j]? = some (k, dk, kk) → ∀ (w : World) (bt bi bl : Nat), TreeAt w t mb y g root next n → w.heap[bt]? = some (.cells #[.pointer (some ⟨t, 0, none⟩)] 23 (0, 0)) → w.heap[bi]? = some (.cells #[.int .i64 k] 3 (0, 0)) → w.heap[bl]? = some (.cells #[.int .i64 (lv + 1)] 3 (0, 0)) →
   IterG Tryz.prog 78 #[.pointer (some ⟨bt, 0, none⟩), .pointer (some ⟨bi, 0, none⟩), .pointer (some ⟨bl, 0, none⟩)] encV (visT (lv + 1) (k, dk, kk)) (fun b => Mine t mb y g b ∨ b = bt ∨ b = bi ∨ b = bl) w)
  (w : World) (bt bi bl : Nat) (ht : TreeAt w t mb y g root next n) (h1 : w.heap[bt]? = some (.cells #[.pointer (some ⟨t, 0, none⟩)] 23 (0, 0))) (h2 : w.heap[bi]? = some (.cells #[.int .i64 id] 3 (0, 0))) (h3 : w.heap[bl]? = some (.cells #[.int .i64 lv] 3 (0, 0))) :
  IterG Tryz.prog 78 #[.pointer (some ⟨bt, 0, none⟩), .pointer (some ⟨bi, 0, none⟩), .pointer (some ⟨bl, 0, none⟩)] encV (visT lv (id, d, ks)) (fun b => Mine t mb y g b ∨ b = bt ∨ b = bi ∨ b = bl) w := by
 intro n0 l J Jx W Fp0 hD hsz hC hJ hJx hY h0
 have HD := Lib.hid hD
 have HC := Lib.hid hC
 have HY := Lib.hid hY
 have HKIDS := Lib.hid hkids
 have htW : TreeAt W t mb y g root next n := ht.keep fun b hb => (hD b (.inl hb)).2
 have g1 : W.heap[bt]? = some (.cells #[.pointer (some ⟨t, 0, none⟩)] 23 (0, 0)) := (hD bt (.inr (.inl rfl))).2.trans h1
 have g2 : W.heap[bi]? = some (.cells #[.int .i64 id] 3 (0, 0)) := (hD bi (.inr (.inr (.inl rfl)))).2.trans h2
 have g3 : W.heap[bl]? = some (.cells #[.int .i64 lv] 3 (0, 0)) := (hD bl (.inr (.inr (.inr rfl)))).2.trans h3
 have HWF := Lib.hid hwf
 obtain ⟨W1, hW1⟩ : ∃ W1, Hid (W1 = W.alloc (.cells #[.func (.yield l) #[] #[]] 119)) := ⟨_, rfl⟩
 have hb1 : Below W.heap.size W W1 := by rw [hW1.out]; exact (Below.refl _ W).alloc (Nat.le_refl _) _
 have hY1 : W1.heap[W.heap.size]? = some (.cells #[.func (.yield l) #[] #[]] 119 (0, 0)) := by rw [hW1.out]; exact heap_alloc_new W _
 have ht1 : TreeAt W1 t mb y g root next n := htW.below hb1
 have k1 : W1.heap[bt]? = some (.cells #[.pointer (some ⟨t, 0, none⟩)] 23 (0, 0)) := (hb1.block bt (Array.getElem?_eq_some_iff.1 g1).1).trans g1
 have k2 : W1.heap[bi]? = some (.cells #[.int .i64 id] 3 (0, 0)) := (hb1.block bi (Array.getElem?_eq_some_iff.1 g2).1).trans g2
 have k3 : W1.heap[bl]? = some (.cells #[.int .i64 lv] 3 (0, 0)) := (hb1.block bl (Array.getElem?_eq_some_iff.1 g3).1).trans g3
 have HB1 := Lib.hid hb1
 have HT1 := Lib.hid ht1
 have HK1 := Lib.hid k1
 have HK2 := Lib.hid k2
 have HK3 := Lib.hid k3
 have HKY := Lib.hid hY1
 have HJ := Lib.hid hJ
 have HJX := Lib.hid hJx
 have HJ0 : Hid (J 0 Fp0 W1) := hJ 0 Fp0 W W1 h0 (Keep.of_below hb1)
 have f1 := cell_row k1 0 _ rfl
 have f2 := cell_row k2 0 _ rfl
 have c0 := ht1.c0
 have hl := fun (k : Nat) => ((ht1.keep (w' := W1.drewN k) (fun _ _ => rfl)).look_yes hid (hwf id _ hid)).1
 clear hD hC hY hkids ht h1 h2 h3 htW g1 g2 g3 hwf hb1 hY1 ht1 k1 k2 k3 hJ hJx h0
 refine callsIn_of_wp_marks Tryz.func78 rfl trivial ?_ rfl
 simp only [Tryz.ntmps78, List.size_toArray, List.length_cons, List.length_nil, Nat.reduceAdd, Nat.reduceSub, Array.replicate_succ, Array.replicate_zero, List.push_toArray, List.append_toArray, List.nil_append, List.cons_append]
 gi_wp2
 refine wpIn_wide.2 ?_
 rw [← hW1.out]
 go_quiet (fail)
 obtain ⟨W2, hW2⟩ : ∃ W2, Hid (W1.drewN nq = W2) := ⟨_, rfl⟩
 rw [hW2.out]
 have same2 : ∀ b : Nat, W2.heap[b]? = W1.heap[b]? := fun b => by rw [← hW2.out]; rfl
 have hb2 : Below W.heap.size W W2 := by rw [← hW2.out]; exact ⟨HB1.out.os, HB1.out.tape, HB1.out.output, HB1.out.size, HB1.out.block⟩
 have ht2 : TreeAt W2 t mb y g root next n := HT1.out.keep fun b _ => same2 b
 have k1 : W2.heap[bt]? = some (.cells #[.pointer (some ⟨t, 0, none⟩)] 23 (0, 0)) := (same2 bt).trans HK1.out
 have k2 : W2.heap[bi]? = some (.cells #[.int .i64 id] 3 (0, 0)) := (same2 bi).trans HK2.out
 have k3 : W2.heap[bl]? = some (.cells #[.int .i64 lv] 3 (0, 0)) := (same2 bl).trans HK3.out
 have hY2 : W2.heap[W.heap.size]? = some (.cells #[.func (.yield l) #[] #[]] 119 (0, 0)) := (same2 _).trans HKY.out
 have HB2 := Lib.hid hb2
 have HT2 := Lib.hid ht2
 have HG1 := Lib.hid k1
 have HG2 := Lib.hid k2
 have HG3 := Lib.hid k3
 have HGY := Lib.hid hY2
 have hb12 : Below W1.heap.size W1 W2 := ⟨by rw [← hW2.out]; rfl, by rw [← hW2.out]; rfl, by rw [← hW2.out]; rfl, by rw [← hW2.out]; exact Nat.le_refl _, fun b _ => same2 b⟩
 have HJ2 : Hid (J 0 Fp0 W2) := HJ.out 0 Fp0 W1 W2 HJ0.out (Keep.of_below hb12)
 obtain ⟨fn, tmps, assign, body, hy, hR⟩ := HY.out 0 (id, lv) Fp0 W2 rfl HJ2.out hb2.size (fun b hb => by have := (HC.out b hb).1; have := hb2.size; omega)
 have hsz2 : W.heap.size < W2.heap.size := (Array.getElem?_eq_some_iff.1 hY2).1
 dsimp only [encV] at hy
 have f1 := cell_row k1 0 _ rfl
 have f2 := cell_row k2 0 _ rfl
 have f3 := cell_row k3 0 _ rfl
 have f4 := cell_row hY2 0 _ rfl
 clear hl same2 hb2 hb12 ht2 k1 k2 k3 hY2 c0
 have HRR := Lib.hid hR
 clear hR
 gi_wp2
 refine ⟨fun h => (by cases h), ?_⟩
 refine (RoundIn.anyD HRR.out).mono ?_
 have notD : ∀ (Fp : Nat → Prop), (∀ b, Fp b → Fp0 b ∨ W2.heap.size ≤ b) → ∀ b, b < W2.heap.size → (Mine t mb y g b ∨ b = bt ∨ b = bi ∨ b = bl ∨ b = W.heap.size) → ¬ Fp b := by
  intro Fp hF b hb hD hf
  rcases hF b hf with h | h
  ·obtain ⟨q1, q2⟩ := HC.out b h
   rcases hD with hD | rfl | rfl | rfl | rfl
   ·exact q2 (.inl hD)
   ·exact q2 (.inr (.inl rfl))
   ·exact q2 (.inr (.inr (.inl rfl)))
   ·exact q2 (.inr (.inr (.inr rfl)))
   ·omega
  ·omega
 have ND := Lib.hid notD
 clear notD
 rintro e W3 (⟨rfl, Fp3, hG3, hB3, hJ3⟩ | ⟨rfl, Fp3, hG3, hB3, hx3⟩)
 ·have nD3 := ND.out Fp0 (fun b hb => .inl hb)
  have same3 : ∀ b, b < W2.heap.size → ¬ Fp0 b → W3.heap[b]? = W2.heap[b]? := hG3.1.block
  have ht3 : TreeAt W3 t mb y g root next n := HT2.out.keep fun b hb => same3 b (HT2.out.lt hb) (nD3 b (HT2.out.lt hb) (.inl hb))
  have l1 := (Array.getElem?_eq_some_iff.1 HG1.out).1
  have l2 := (Array.getElem?_eq_some_iff.1 HG2.out).1
  have l3 := (Array.getElem?_eq_some_iff.1 HG3.out).1
  have k1 : W3.heap[bt]? = some (.cells #[.pointer (some ⟨t, 0, none⟩)] 23 (0, 0)) := (same3 bt l1 (nD3 _ l1 (.inr (.inl rfl)))).trans HG1.out
  have k2 : W3.heap[bi]? = some (.cells #[.int .i64 id] 3 (0, 0)) := (same3 bi l2 (nD3 _ l2 (.inr (.inr (.inl rfl))))).trans HG2.out
  have k3 : W3.heap[bl]? = some (.cells #[.int .i64 lv] 3 (0, 0)) := (same3 bl l3 (nD3 _ l3 (.inr (.inr (.inr (.inl rfl)))))).trans HG3.out
  have hY3 : W3.heap[W.heap.size]? = some (.cells #[.func (.yield l) #[] #[]] 119 (0, 0)) := (same3 _ hsz2 (nD3 _ hsz2 (.inr (.inr (.inr (.inr rfl)))))).trans HGY.out
  have c7 := ht3.n7 hid
  obtain ⟨A, c, hv, hnc, hcm, hA0, hA1⟩ := row_shape (ht3.kid id _ hid)
  rw [hv] at c7
  simp only at c7 hnc
  have hks : ks.roots.length ≤ 9223372036854775807 := by unfold maxLen at hcm; omega
  obtain ⟨m, hm⟩ : ∃ m, Hid (ks.roots.length = m) := ⟨_, rfl⟩
  rw [hm.out] at c7 hks
  have HT3 := Lib.hid ht3
  have HG1' := Lib.hid k1
  have HG2' := Lib.hid k2
  have HG3' := Lib.hid k3
  have HGY' := Lib.hid hY3
  have HJ3 := Lib.hid hJ3
  have HTU3 := Lib.hid hG3
  have HBD3 := Lib.hid hB3
  have HNB3 : Hid (∀ b, Fp3 b → Fp0 b ∨ W2.heap.size ≤ b) := hG3.2
  have hz23 := hG3.1.size
  have hsz3 : W.heap.size < W3.heap.size := by have := (Array.getElem?_eq_some_iff.1 hY3).1; omega
  clear same3 ht3 k1 k2 k3 hY3 hJ3 hG3 hB3 nD3 f1 f2 f3 f4 hy
  gi_wp2
  refine wpIn_loop (fun a wr => ∃ (j : Nat) (bs : List Nat) (Fp : Nat → Prop) (u7 u8 u9 u10 u35 u36 u37 u38 u39 u40 u41 u42 u43 u44 u45 u46 u47 u48 u49 u50 : Value), a = { tmps := #[Value.func (Fn.yield l) #[] #[], Value.pointer (some ⟨bt, 0, none⟩), Value.pointer (some ⟨bi, 0, none⟩), Value.pointer (some ⟨bl, 0, none⟩), Value.pointer (some ⟨W.heap.size, 0, none⟩), Value.pointer (some ⟨y.nb id, 0, none⟩), Value.bool true, u7, u8, u9, u10, Value.tuple #[Value.pointer (some ⟨y.nb id, 0, none⟩), Value.bool true], Value.pointer (some ⟨t, 0, none⟩), Value.pointer (some ⟨t, 0, none⟩), Value.pointer (some ⟨t, 0, none⟩), Value.map (some mb), Value.int .i64 id, Value.tuple #[Value.pointer (some ⟨y.nb id, 0, none⟩), Value.bool true], Value.pointer (some ⟨y.nb id, 0, none⟩), Value.bool true, Value.bool true, Value.bool false, Value.bool false, Value.func (Fn.yield l) #[] #[], Value.int .i64 id, Value.int .i64 lv, Value.bool true, Value.bool false, Value.bool false, Value.pointer (some ⟨y.nb id, 0, none⟩), Value.pointer (some ⟨y.nb id, 0, none⟩), Value.pointer (some ⟨y.nb id, 7, none⟩), Value.slice A m c, Value.int .i64 m, Value.int .i64 (j : Int), u35, u36, u37, u38, u39, u40, u41, u42, u43, u44, u45, u46, u47, u48, u49, u50], defers := bs.map markOf } ∧ j ≤ m ∧
    Hid (J (1 + ((ks.trees.take j).flatMap (visT (lv + 1))).length) Fp wr) ∧ Hid (Grows Fp3 Fp W3 wr) ∧ Hid (∀ b, Fp b → b < wr.heap.size) ∧ Hid (bs.Nodup ∧ ∀ b ∈ bs, W3.heap.size ≤ b ∧ ¬ Fp b ∧ wr.heap[b]? = some (.deferred (some [])))) (fun a _ => m - (intOf (a.tmps.getD 34 undef)).toNat) ?start ?round
  case start => exact ⟨0, [], Fp3, _, _, _, _, _, _, _, _, _, _, _, _, _, _, _, _, _, _, _, _, rfl, Nat.zero_le _, by show J _ _ _; simpa using HJ3.out, Grows.refl Fp3 W3, HBD3.out, by simp, by simp⟩
  case round =>
   rintro a wr ⟨j, bs, Fp, u7, u8, u9, u10, u35, u36, u37, u38, u39, u40, u41, u42, u43, u44, u45, u46, u47, u48, u49, u50, rfl, hj, hJj, hTj, hBj, hbs⟩
   have j0 : (0 : Int) ≤ (j : Int) := by omega
   have hszr : W3.heap.size ≤ wr.heap.size := hTj.out.1.size
   have same : ∀ b, b < W3.heap.size → ¬ Fp3 b → wr.heap[b]? = W3.heap[b]? := hTj.out.1.block
   have nD3 := ND.out Fp3 HNB3.out
   have ltT : ∀ b, Mine t mb y g b → b < W2.heap.size := fun b hb => HT2.out.lt hb
   have l1 := (Array.getElem?_eq_some_iff.1 HG1.out).1
   have l3 := (Array.getElem?_eq_some_iff.1 HG3.out).1
   have htr : TreeAt wr t mb y g root next n := HT3.out.keep fun b hb => same b (HT3.out.lt hb) (nD3 b (ltT b hb) (.inl hb))
   have k1 : wr.heap[bt]? = some (.cells #[.pointer (some ⟨t, 0, none⟩)] 23 (0, 0)) := (same bt (by omega) (nD3 _ l1 (.inr (.inl rfl)))).trans HG1'.out
   have k3 : wr.heap[bl]? = some (.cells #[.int .i64 lv] 3 (0, 0)) := (same bl (by omega) (nD3 _ l3 (.inr (.inr (.inr (.inl rfl)))))).trans HG3'.out
   have hYr : wr.heap[W.heap.size]? = some (.cells #[.func (.yield l) #[] #[]] 119 (0, 0)) := (same _ hsz3 (nD3 _ hsz2 (.inr (.inr (.inr (.inr rfl)))))).trans HGY'.out
   have hDF : ∀ b, Mine t mb y g b → ¬ Fp b := fun b hb hf => by
    rcases hTj.out.2 b hf with h | h
    ·exact nD3 b (ltT b hb) (.inl hb) h
    ·have := ltT b hb; omega
   have HDF := Lib.hid hDF
   have hall : Grows Fp0 Fp W wr := ((Grows.of_below HB2.out).trans HTU3.out).trans hTj.out
   have HALL := Lib.hid hall
   clear nD3 ltT hDF hall l1 l3
   by_cases hlt : j < m
   ·obtain ⟨⟨k, dk, kk⟩, hkt⟩ : ∃ x, Hid (ks.trees[j]? = some x) := ⟨ks.trees[j]'(by have := congrArg List.length (trees_roots ks); rw [List.length_map, hm.out] at this; omega), List.getElem?_eq_getElem _⟩
    have hkr : ks.roots[j]? = some k := by rw [← trees_roots, List.getElem?_map, hkt.out]; rfl
    have hrow := htr.kid id _ hid
    unfold intRow at hrow
    rw [hv] at hrow
    simp only [hm.out] at hrow
    cases A with
    | none => have := (hA0 rfl).1; simp only [hm.out] at this; omega
    | some ad =>
     obtain ⟨gk, rfl, _⟩ := hA1 ad rfl
     have ck := own_cell hrow j (.int .i64 k) (by rw [List.getElem?_map, hkr]; rfl)
     have f1 := cell_row k1 0 _ rfl
     have f3 := cell_row k3 0 _ rfl
     have HK1r := Lib.hid k1
     have HKYr := Lib.hid hYr
     have HTR := Lib.hid htr
     have jm : (j : Int) < m := by omega
     have lv1 : lv + 1 ≤ 1000001 := by omega
     obtain ⟨lv0, lv2⟩ := hlv
     clear same htr k1 k3 hYr hrow hkr
     gi_wp2
     refine ⟨trivial, fun h => (by cases h), ?_⟩
     refine (callsIn_wide.2 (below_calls wr t k (lv + 1))).mono ?_
     rintro e w4 ⟨rfl, hw4⟩
     have hb4 : Below wr.heap.size wr w4 := by rw [hw4]; exact (((Below.refl _ wr).alloc (Nat.le_refl _) _).alloc (by simp) _).alloc (by simp; omega) _
     have hz4 : w4.heap.size = wr.heap.size + 3 := by rw [hw4]; simp
     have b1 : w4.heap[wr.heap.size]? = some (.cells #[.pointer (some ⟨t, 0, none⟩)] 23 (0, 0)) := by
      rw [hw4]
      refine (Below.heap_alloc _ _ _ (by simp; omega)).trans ((Below.heap_alloc _ _ _ (by simp)).trans (heap_alloc_new wr _))
     have b2 : w4.heap[wr.heap.size + 1]? = some (.cells #[.int .i64 k] 3 (0, 0)) := by
      rw [hw4]
      refine (Below.heap_alloc _ _ _ (by simp)).trans ?_
      have := heap_alloc_new (wr.alloc (.cells #[.pointer (some ⟨t, 0, none⟩)] 23)) (.cells #[.int .i64 k] 3)
      simpa using this
     have b3 : w4.heap[wr.heap.size + 2]? = some (.cells #[.int .i64 (lv + 1)] 3 (0, 0)) := by
      rw [hw4]
      have := heap_alloc_new ((wr.alloc (.cells #[.pointer (some ⟨t, 0, none⟩)] 23)).alloc (.cells #[.int .i64 k] 3)) (.cells #[.int .i64 (lv + 1)] 3)
      simpa using this
     have hit := HKIDS.out j k dk kk hkt.out w4 (wr.heap.size) (wr.heap.size + 1) (wr.heap.size + 2) (HTR.out.below hb4) b1 b2 b3
     have HIT := Lib.hid hit
     have HB4 := Lib.hid hb4
     have HY4 : Hid (w4.heap[W.heap.size]? = some (.cells #[.func (.yield l) #[] #[]] 119 (0, 0))) := (hb4.block _ (Array.getElem?_eq_some_iff.1 HKYr.out).1).trans HKYr.out
     have hT4 : Grows Fp3 Fp W3 w4 := hTj.out.trans (Grows.of_below hb4)
     have hJ4 : J (1 + ((ks.trees.take j).flatMap (visT (lv + 1))).length) Fp w4 := HJ.out _ Fp wr w4 hJj.out (Keep.of_below hb4)
     have hbs4 : bs.Nodup ∧ ∀ b ∈ bs, W3.heap.size ≤ b ∧ b < w4.heap.size ∧ ¬ Fp b ∧ w4.heap[b]? = some (.deferred (some [])) := ⟨hbs.out.1, fun b hb => by
      obtain ⟨q1, q0, q2⟩ := hbs.out.2 b hb
      have q3 := (Array.getElem?_eq_some_iff.1 q2).1
      exact ⟨q1, by omega, q0, (hb4.block b q3).trans q2⟩⟩
     have hB4 : ∀ b, Fp b → b < wr.heap.size := hBj.out
     have HALL4 : Hid (Grows Fp0 Fp W w4) := HALL.out.trans (Grows.of_below hb4)
     have hlen : Hid (((ks.trees.take (j + 1)).flatMap (visT (lv + 1))).length = ((ks.trees.take j).flatMap (visT (lv + 1))).length + (visT (lv + 1) (k, dk, kk)).length) := by
      show _ = _
      rw [List.take_add_one, hkt.out]; simp
     have hget : Hid (∀ (i : Nat) (x : Int × Int), (visT (lv + 1) (k, dk, kk))[i]? = some x → (visT lv (id, d, ks))[1 + ((ks.trees.take j).flatMap (visT (lv + 1))).length + i]? = some x) := by
      intro i x hx
      have e1 : visT lv (id, d, ks) = (id, lv) :: (((ks.trees.take j).flatMap (visT (lv + 1)) ++ visT (lv + 1) (k, dk, kk)) ++ (ks.trees.drop (j + 1)).flatMap (visT (lv + 1))) := by
       have e2 : ks.trees = ks.trees.take j ++ ((k, dk, kk) :: ks.trees.drop (j + 1)) := by rw [← drop_cons hkt.out, List.take_append_drop]
       show (id, lv) :: visF (lv + 1) ks = _
       rw [vis_trees]
       conv => lhs; rw [e2]
       rw [List.flatMap_append, List.flatMap_cons, List.append_assoc]
      have hil := (List.getElem?_eq_some_iff.1 hx).1
      rw [e1, show 1 + ((ks.trees.take j).flatMap (visT (lv + 1))).length + i = (((ks.trees.take j).flatMap (visT (lv + 1))).length + i) + 1 by omega, List.getElem?_cons_succ, List.getElem?_append_left (by rw [List.length_append]; omega), List.getElem?_append_right (by omega)]
      rw [show ((ks.trees.take j).flatMap (visT (lv + 1))).length + i - ((ks.trees.take j).flatMap (visT (lv + 1))).length = i by omega]
      exact hx
     obtain ⟨S0, hS0⟩ : ∃ S0, Hid (1 + ((ks.trees.take j).flatMap (visT (lv + 1))).length = S0) := ⟨_, rfl⟩
     rw [hS0.out] at hJ4
     have HT4 := Lib.hid hT4
     have HJ4 := Lib.hid hJ4
     have HBS4 := Lib.hid hbs4
     have hsz4 : W3.heap.size ≤ w4.heap.size := by omega
     have HFB := Lib.hid hB4
     clear hit hb4 b1 b2 b3 hT4 hJ4 hbs4 hB4 hw4 f1 f3 ck hbs hJj hTj hBj
     gi_wp2
     refine range_law (gf := 78) (lb := #[.pointer (some ⟨wr.heap.size, 0, none⟩), .pointer (some ⟨wr.heap.size + 1, 0, none⟩), .pointer (some ⟨wr.heap.size + 2, 0, none⟩)]) rfl (enters_of Tryz.func78 (by kernel_rfl) rfl)
      HIT.out (fun b hb => ⟨?dlt, rfl⟩) (Nat.le_refl _) (fun _ => rfl) Fp (fun b hb => ⟨?clt, ?cnd⟩)
      (fun i Fq W' => (J (S0 + i) Fq W' ∧ Grows Fp3 Fq W3 W') ∧ ∀ b ∈ bs, ¬ Fq b ∧ W'.heap[b]? = some (.deferred (some [])))
      (fun c Fq W' => c = .ret ∧ (Jx Fq W' ∧ Grows Fp3 Fq W3 W') ∧ ∀ b ∈ bs, ¬ Fq b ∧ W'.heap[b]? = some (.deferred (some [])))
      ?sI ?sX ⟨⟨HJ4.out, HT4.out⟩, fun b hb => (HBS4.out.2 b hb).2.2⟩
      (fun x => { tmps := #[Value.func (Fn.yield l) #[] #[], Value.pointer (some ⟨bt, 0, none⟩), Value.pointer (some ⟨bi, 0, none⟩), Value.pointer (some ⟨bl, 0, none⟩), Value.pointer (some ⟨W.heap.size, 0, none⟩), Value.pointer (some ⟨y.nb id, 0, none⟩), Value.bool true, u7, Value.int .i64 k, Value.int .i64 x.1, Value.int .i64 x.2, Value.tuple #[Value.pointer (some ⟨y.nb id, 0, none⟩), Value.bool true], Value.pointer (some ⟨t, 0, none⟩), Value.pointer (some ⟨t, 0, none⟩), Value.pointer (some ⟨t, 0, none⟩), Value.map (some mb), Value.int .i64 id, Value.tuple #[Value.pointer (some ⟨y.nb id, 0, none⟩), Value.bool true], Value.pointer (some ⟨y.nb id, 0, none⟩), Value.bool true, Value.bool true, Value.bool false, Value.bool false, Value.func (Fn.yield l) #[] #[], Value.int .i64 id, Value.int .i64 lv, Value.bool true, Value.bool false, Value.bool false, Value.pointer (some ⟨y.nb id, 0, none⟩), Value.pointer (some ⟨y.nb id, 0, none⟩), Value.pointer (some ⟨y.nb id, 7, none⟩), Value.slice (some ⟨gk, 0, none⟩) m c, Value.int .i64 m, Value.int .i64 (j : Int), Value.bool true, Value.pointer (some ⟨gk, j, none⟩), Value.int .i64 k, Value.pointer (some ⟨t, 0, none⟩), Value.int .i64 k, Value.int .i64 lv, Value.int .i64 (lv + 1), Value.func (.func 78) #[] #[.pointer (some ⟨wr.heap.size, 0, none⟩), .pointer (some ⟨wr.heap.size + 1, 0, none⟩), .pointer (some ⟨wr.heap.size + 2, 0, none⟩)], Value.int .i64 x.1, Value.int .i64 x.2, u45, u46, u47, u48, u49, u50], defers := [] }) ?assign ?body ?done ?stop
     case dlt =>
      rcases hb with hb | rfl | rfl | rfl
      ·have := HTR.out.lt hb; omega
      ·omega
      ·omega
      ·omega
     case clt => have := HFB.out b hb; omega
     case cnd =>
      have hlt' := HFB.out b hb
      rintro (hm' | rfl | rfl | rfl)
      ·exact HDF.out b hm' hb
      ·omega
      ·omega
      ·omega
     case sI =>
      rintro i Fq A' B' ⟨⟨q1, q2⟩, q3⟩ hAB
      refine ⟨⟨HJ.out _ Fq A' B' q1 (hAB.mono fun b hb => ⟨by omega, hb.2⟩), grows_keep q2 hsz4 hAB⟩, fun b hb => ⟨(q3 b hb).1, (hAB.block (Array.getElem?_eq_some_iff.1 (q3 b hb).2).1 (.inl (HBS4.out.2 b hb).2.1)).trans (q3 b hb).2⟩⟩
     case sX =>
      rintro c Fq A' B' ⟨q0, ⟨q1, q2⟩, q3⟩ hAB
      exact ⟨q0, ⟨HJX.out Fq A' B' q1 (hAB.mono fun b hb => ⟨by omega, hb.2⟩), grows_keep q2 hsz4 hAB⟩, fun b hb => ⟨(q3 b hb).1, (hAB.block (Array.getElem?_eq_some_iff.1 (q3 b hb).2).1 (.inl (HBS4.out.2 b hb).2.1)).trans (q3 b hb).2⟩⟩
     case assign =>
      intro l' x W' K hK
      dsimp only [encV]
      gi_wp2
      exact hK
     case body =>
      rintro l' i ⟨xi, xl⟩ Fq W' hx ⟨⟨q1, q2⟩, q3⟩ hW' hFq
      have HQ2 := Lib.hid q2
      have HQ3 := Lib.hid q3
      have hYw : W'.heap[W.heap.size]? = some (.cells #[.func (.yield l) #[] #[]] 119 (0, 0)) := (q2.1.block _ hsz3 (ND.out Fp3 HNB3.out _ hsz2 (.inr (.inr (.inr (.inr rfl)))))).trans HGY'.out
      have fy := cell_row hYw 0 _ rfl
      obtain ⟨fn', tmps', assign', body', hy', hR'⟩ := HY.out (S0 + i) (xi, xl) Fq W' (by rw [← hS0.out]; exact hget.out i _ hx) q1 (by omega) hFq
      dsimp only [encV] at hy'
      have HR' := Lib.hid hR'
      clear q1 q2 q3 hYw hR' hx
      clear hFq
      gi_wp2
      refine ⟨fun h => (by cases h), ?_⟩
      refine (RoundIn.inR l' HR'.out).mono ?_
      rintro e W5 (⟨rfl, hL5⟩ | ⟨rfl, hL5⟩)
      ·have HL5 := Lib.hid hL5
       clear hL5
       gi_wp2
       obtain ⟨Fr, r1, r2, r3⟩ := HL5.out
       exact ⟨Fr, r1, r2, ⟨r3, HQ2.out.trans r1⟩, marks_on HQ3.out (fun b hb => by have := (HBS4.out.2 b hb).2.1; omega) r1⟩
      ·have HL5 := Lib.hid hL5
       clear hL5
       gi_wp2
       obtain ⟨Fr, r1, r2, r3⟩ := HL5.out
       exact ⟨Fr, r1, r2, rfl, ⟨r3, HQ2.out.trans r1⟩, marks_on HQ3.out (fun b hb => by have := (HBS4.out.2 b hb).2.1; omega) r1⟩
     case done =>
      rintro W5 ⟨Fq, r1, r2, ⟨⟨q1, q2⟩, q3⟩, qn⟩ hK5
      have HJ5 : Hid (J (1 + ((ks.trees.take (j + 1)).flatMap (visT (lv + 1))).length) Fq W5) := by
       show J _ _ _
       rw [hlen.out, ← Nat.add_assoc, hS0.out]; exact q1
      have HT5 := Lib.hid q2
      have HR2 := Lib.hid r2
      have HBS5 : Hid ((w4.heap.size :: bs).Nodup ∧ ∀ b ∈ w4.heap.size :: bs, W3.heap.size ≤ b ∧ ¬ Fq b ∧ W5.heap[b]? = some (.deferred (some []))) := by
       refine ⟨List.nodup_cons.2 ⟨fun hb => ?_, HBS4.out.1⟩, fun b hb => ?_⟩
       ·have := (HBS4.out.2 _ hb).2.1; omega
       ·rcases List.mem_cons.1 hb with rfl | hb
        ·exact ⟨by omega, qn, hK5⟩
        ·exact ⟨(HBS4.out.2 b hb).1, q3 b hb⟩
      clear q1 q2 q3 hK5 r1 r2 qn
      gi_wp2
      exact ⟨⟨j + 1, w4.heap.size :: bs, Fq, _, _, _, _, _, _, _, _, _, _, _, _, _, _, _, _, _, _, _, _, rfl, by omega, HJ5, HT5, HR2, HBS5⟩, by simp [intOf]; omega⟩
     case stop =>
      rintro c W5 ⟨Fq, r1, r2, ⟨rfl, ⟨q1, q2⟩, q3⟩, qn⟩ hK5
      have HBS5 : Hid ((w4.heap.size :: bs).Nodup ∧ ∀ b ∈ w4.heap.size :: bs, W3.heap.size ≤ b ∧ ¬ Fq b ∧ W5.heap[b]? = some (.deferred (some []))) := by
       refine ⟨List.nodup_cons.2 ⟨fun hb => ?_, HBS4.out.1⟩, fun b hb => ?_⟩
       ·have := (HBS4.out.2 _ hb).2.1; omega
       ·rcases List.mem_cons.1 hb with rfl | hb
        ·exact ⟨by omega, qn, hK5⟩
        ·exact ⟨(HBS4.out.2 b hb).1, q3 b hb⟩
      have HX5 := Lib.hid q1
      have HR1 := Lib.hid r1
      have HR2 := Lib.hid r2
      clear q1 q2 q3 hK5 r1 r2 qn
      gi_wp2
      refine marks_leave (w4.heap.size :: bs) W5 HBS5.out.1 (fun b hb => (HBS5.out.2 b hb).2.2) (fun w' hw' => ⟨_, results_none rfl _ _ _, ⟨_, rfl⟩, .inr ?_⟩)
      exact left_marks (HALL4.out.trans HR1.out) HR2.out (fun b hb => by have := (HBS5.out.2 b hb).1; exact ⟨by omega, by omega⟩) (fun b hb => (HBS5.out.2 b hb).2.1) hw' (HJX.out Fq) HX5.out
   ·have hjm : (m : Int) ≤ (j : Int) := by omega
    have hjm' : j = m := by omega
    have hfin : Hid (J (visT lv (id, d, ks)).length Fp wr) := by
     have e1 : (visT lv (id, d, ks)).length = 1 + ((ks.trees.take j).flatMap (visT (lv + 1))).length := by
      have h1 := congrArg List.length (trees_roots ks)
      rw [List.length_map, hm.out] at h1
      rw [List.take_of_length_le (by omega), ← vis_trees]
      simp only [visT, List.length_cons]; omega
     show J _ _ _
     rw [e1]; exact hJj.out
    clear same htr k1 k3 hYr
    gi_wp2
    refine marks_leave bs wr hbs.out.1 (fun b hb => (hbs.out.2 b hb).2.2) (fun w' hw' => ⟨_, results_none rfl _ _ _, ⟨_, rfl⟩, .inl ?_⟩)
    exact left_marks HALL.out hBj.out (fun b hb => by have := (hbs.out.2 b hb).1; exact ⟨by omega, by omega⟩) (fun b hb => (hbs.out.2 b hb).2.1) hw' (HJ.out _ Fp) hfin.out
 ·gi_wp2
  refine marks_leave [] W3 (by simp) (by simp) (fun w' hw' => ⟨_, results_none rfl _ _ _, ⟨_, rfl⟩, .inr ?_⟩)
  exact left_marks ((Grows.of_below HB2.out).trans hG3) hB3 (by simp) (by simp) hw' (HJX.out Fp3) hx3
end
section
open Go.RowKit Go.Shelf
attribute [local go_sem] Oper.semAt_some
theorem forest_iter {t mb : Nat} {y : Lay} {g : Int → Option Ent} {root next : Int} {n : Nat} (hwf : ∀ id e, g id = some e → wfI id) : ∀ (f : Fo) (q lv : Int), Agr g q f → 0 ≤ lv → lv + f.cnt ≤ 1000000 → ∀ (j : Nat) (id : Int) (d : NodeD) (ks : Fo), f.trees[j]? = some (id, d, ks) →
  ∀ (w : World) (bt bi bl : Nat), TreeAt w t mb y g root next n → w.heap[bt]? = some (.cells #[.pointer (some ⟨t, 0, none⟩)] 23 (0, 0)) → w.heap[bi]? = some (.cells #[.int .i64 id] 3 (0, 0)) → w.heap[bl]? = some (.cells #[.int .i64 lv] 3 (0, 0)) →
   IterG Tryz.prog 78 #[.pointer (some ⟨bt, 0, none⟩), .pointer (some ⟨bi, 0, none⟩), .pointer (some ⟨bl, 0, none⟩)] encV (visT lv (id, d, ks)) (fun b => Mine t mb y g b ∨ b = bt ∨ b = bi ∨ b = bl) w
 | .nil, q, lv, _, _, _, j, id, d, ks, h => by simp [Fo.trees] at h
 | .cons id0 d0 ks0 r, q, lv, ha, h0, h1, 0, id, d, ks, h => by
  simp only [Fo.trees, List.getElem?_cons_zero, Option.some.injEq, Prod.mk.injEq] at h
  obtain ⟨rfl, rfl, rfl⟩ := h
  simp only [Fo.cnt] at h1
  exact node_iter hwf q id0 lv d0 ks0 ha.1 ⟨h0, by omega⟩ (fun j k dk kk hk => forest_iter hwf ks0 id0 (lv + 1) ha.2.1 (by omega) (by omega) j k dk kk hk)
 | .cons id0 d0 ks0 r, q, lv, ha, h0, h1, j + 1, id, d, ks, h => by
  simp only [Fo.trees, List.getElem?_cons_succ] at h
  simp only [Fo.cnt] at h1
  exact forest_iter hwf r q lv ha.2.2 h0 (by omega) j id d ks h
theorem none_iter {t mb : Nat} {y : Lay} {g : Int → Option Ent} {root next : Int} {n : Nat} (id : Int) (hw : wfI id) (hid : g id = none)
  (w : World) (bt bi bl : Nat) (ht : TreeAt w t mb y g root next n) (h1 : w.heap[bt]? = some (.cells #[.pointer (some ⟨t, 0, none⟩)] 23 (0, 0))) (h2 : w.heap[bi]? = some (.cells #[.int .i64 id] 3 (0, 0))) :
  IterG Tryz.prog 78 #[.pointer (some ⟨bt, 0, none⟩), .pointer (some ⟨bi, 0, none⟩), .pointer (some ⟨bl, 0, none⟩)] encV [] (fun b => Mine t mb y g b ∨ b = bt ∨ b = bi ∨ b = bl) w := by
 intro n0 l J Jx W Fp0 hD hsz hC hJ hJx hY h0
 have HC := Lib.hid hC
 have HJ := Lib.hid hJ
 have H0 := Lib.hid h0
 have htW : TreeAt W t mb y g root next n := ht.keep fun b hb => (hD b (.inl hb)).2
 have g1 : W.heap[bt]? = some (.cells #[.pointer (some ⟨t, 0, none⟩)] 23 (0, 0)) := (hD bt (.inr (.inl rfl))).2.trans h1
 have g2 : W.heap[bi]? = some (.cells #[.int .i64 id] 3 (0, 0)) := (hD bi (.inr (.inr (.inl rfl)))).2.trans h2
 obtain ⟨W1, hW1⟩ : ∃ W1, Hid (W1 = W.alloc (.cells #[.func (.yield l) #[] #[]] 119)) := ⟨_, rfl⟩
 have hb1 : Below W.heap.size W W1 := by rw [hW1.out]; exact (Below.refl _ W).alloc (Nat.le_refl _) _
 have ht1 : TreeAt W1 t mb y g root next n := htW.below hb1
 have k1 : W1.heap[bt]? = some (.cells #[.pointer (some ⟨t, 0, none⟩)] 23 (0, 0)) := (hb1.block bt (Array.getElem?_eq_some_iff.1 g1).1).trans g1
 have k2 : W1.heap[bi]? = some (.cells #[.int .i64 id] 3 (0, 0)) := (hb1.block bi (Array.getElem?_eq_some_iff.1 g2).1).trans g2
 have HB1 := Lib.hid hb1
 have f1 := cell_row k1 0 _ rfl
 have f2 := cell_row k2 0 _ rfl
 have c0 := ht1.c0
 have hl := fun (k : Nat) => ((ht1.keep (w' := W1.drewN k) (fun _ _ => rfl)).look_no hid hw).1
 clear hD hC hY ht h1 h2 htW g1 g2 hb1 ht1 k1 k2 hJ hJx h0
 refine callsIn_of_wp_marks Tryz.func78 rfl trivial ?_ rfl
 simp only [Tryz.ntmps78, List.size_toArray, List.length_cons, List.length_nil, Nat.reduceAdd, Nat.reduceSub, Array.replicate_succ, Array.replicate_zero, List.push_toArray, List.append_toArray, List.nil_append, List.cons_append]
 gi_wp2
 refine wpIn_wide.2 ?_
 rw [← hW1.out]
 go_quiet (fail)
 obtain ⟨W2, hW2⟩ : ∃ W2, Hid (W1.drewN nq = W2) := ⟨_, rfl⟩
 rw [hW2.out]
 have hb2 : Below W.heap.size W W2 := by rw [← hW2.out]; exact ⟨HB1.out.os, HB1.out.tape, HB1.out.output, HB1.out.size, HB1.out.block⟩
 have HB2 := Lib.hid hb2
 clear hl hb2 c0 f1 f2
 gi_wp2
 refine ⟨fun _ h => (by cases h), ?_⟩
 gi_wp2
 refine marks_leave [] W2 (by simp) (by simp) (fun w' hw' => ⟨_, results_none rfl _ _ _, ⟨_, rfl⟩, .inl ?_⟩)
 exact left_marks (Grows.of_below HB2.out) (fun b hb => by have := (HC.out b hb).1; have := HB2.out.size; omega) (by simp) (by simp) hw' (HJ.out 0 Fp0) (HJ.out 0 Fp0 W W2 H0.out (Keep.of_below HB2.out))
end
end Go.Proofs.YtmkgajdgnmolkaaGreat

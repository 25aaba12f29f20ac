/-
  The walk of glyph.Start.
-/
import Derived.Test.YthifddkmbjnncaaStarts
namespace Go.Proofs.Ythifddkmbjnncaa
open Go.RowKit


set_option maxRecDepth 100000 in
set_option maxHeartbeats 4000000 in
theorem Start_any (c : Int) (w : World) :
    Calls Try.prog 47 #[.int .i32 c] w (Ret w (.bool (startB c))) := by
  have q0 := st_0
  have q1 := st_1
  have q2 := st_2
  have q3 := st_3
  have q4 := st_4
  have q5 := st_5
  have q6 := st_6
  have q7 := st_7
  have q8 := st_8
  have q9 := st_9
  have q10 := st_10
  have q11 := st_11
  have q12 := st_12
  have q13 := st_13
  have q14 := st_14
  go_enter Try.func47, Try.ntmps47
  go_wp2_with fail
  refine (starts_any _).mono ?_; rintro e w0 ⟨rfl, hb0⟩
  have hz0 := hb0.size
  go_wp2_with fail
  refine wp_loop_rounds 16 ?_
  rw [rounds_succ]
  by_cases h0 : 65 ≤ c ∧ c ≤ 90
  · have H0 : Hid ((decide ((65 : Int) ≤ c) && decide (c ≤ 90)) = true) := by show _ = _; simp [h0]
    have hv : Hid (startB c = true) := by show _ = _; unfold startB; simp; omega
    clear h0
    go_wp2_with fail
    refine (has_any 65 90 _ _ true H0).mono ?_; rintro e w1 ⟨rfl, hb1⟩
    have hz1 := hb1.size
    simp only [World.size_alloc] at hz1
    go_wp2_with fail
    go_ret
    exact ⟨by rw [hv.out]; rfl, (((hb0).alloc (by omega) _).trans (hb1.mono (by first | omega | (simp; done) | (simp; omega))))⟩
  have H0 : Hid ((decide ((65 : Int) ≤ c) && decide (c ≤ 90)) = false) := by show _ = _; simp; omega
  go_wp2_with fail
  refine (has_any 65 90 _ _ false H0).mono ?_; rintro e w1 ⟨rfl, hb1⟩
  have hz1 := hb1.size
  simp only [World.size_alloc] at hz1
  go_wp2_with fail
  rw [rounds_succ]
  by_cases h1 : 95 ≤ c ∧ c ≤ 95
  · have H1 : Hid ((decide ((95 : Int) ≤ c) && decide (c ≤ 95)) = true) := by show _ = _; simp [h1]
    have hv : Hid (startB c = true) := by show _ = _; unfold startB; simp; omega
    clear h1
    go_wp2_with fail
    refine (has_any 95 95 _ _ true H1).mono ?_; rintro e w2 ⟨rfl, hb2⟩
    have hz2 := hb2.size
    simp only [World.size_alloc] at hz2
    go_wp2_with fail
    go_ret
    exact ⟨by rw [hv.out]; rfl, ((((((hb0).alloc (by omega) _).trans (hb1.mono (by first | omega | (simp; done) | (simp; omega))))).alloc (by omega) _).trans (hb2.mono (by first | omega | (simp; done) | (simp; omega))))⟩
  have H1 : Hid ((decide ((95 : Int) ≤ c) && decide (c ≤ 95)) = false) := by show _ = _; simp; omega
  go_wp2_with fail
  refine (has_any 95 95 _ _ false H1).mono ?_; rintro e w2 ⟨rfl, hb2⟩
  have hz2 := hb2.size
  simp only [World.size_alloc] at hz2
  go_wp2_with fail
  rw [rounds_succ]
  by_cases h2 : 97 ≤ c ∧ c ≤ 122
  · have H2 : Hid ((decide ((97 : Int) ≤ c) && decide (c ≤ 122)) = true) := by show _ = _; simp [h2]
    have hv : Hid (startB c = true) := by show _ = _; unfold startB; simp; omega
    clear h2
    go_wp2_with fail
    refine (has_any 97 122 _ _ true H2).mono ?_; rintro e w3 ⟨rfl, hb3⟩
    have hz3 := hb3.size
    simp only [World.size_alloc] at hz3
    go_wp2_with fail
    go_ret
    exact ⟨by rw [hv.out]; rfl, (((((((((hb0).alloc (by omega) _).trans (hb1.mono (by first | omega | (simp; done) | (simp; omega))))).alloc (by omega) _).trans (hb2.mono (by first | omega | (simp; done) | (simp; omega))))).alloc (by omega) _).trans (hb3.mono (by first | omega | (simp; done) | (simp; omega))))⟩
  have H2 : Hid ((decide ((97 : Int) ≤ c) && decide (c ≤ 122)) = false) := by show _ = _; simp; omega
  go_wp2_with fail
  refine (has_any 97 122 _ _ false H2).mono ?_; rintro e w3 ⟨rfl, hb3⟩
  have hz3 := hb3.size
  simp only [World.size_alloc] at hz3
  go_wp2_with fail
  rw [rounds_succ]
  by_cases h3 : 192 ≤ c ∧ c ≤ 214
  · have H3 : Hid ((decide ((192 : Int) ≤ c) && decide (c ≤ 214)) = true) := by show _ = _; simp [h3]
    have hv : Hid (startB c = true) := by show _ = _; unfold startB; simp; omega
    clear h3
    go_wp2_with fail
    refine (has_any 192 214 _ _ true H3).mono ?_; rintro e w4 ⟨rfl, hb4⟩
    have hz4 := hb4.size
    simp only [World.size_alloc] at hz4
    go_wp2_with fail
    go_ret
    exact ⟨by rw [hv.out]; rfl, ((((((((((((hb0).alloc (by omega) _).trans (hb1.mono (by first | omega | (simp; done) | (simp; omega))))).alloc (by omega) _).trans (hb2.mono (by first | omega | (simp; done) | (simp; omega))))).alloc (by omega) _).trans (hb3.mono (by first | omega | (simp; done) | (simp; omega))))).alloc (by omega) _).trans (hb4.mono (by first | omega | (simp; done) | (simp; omega))))⟩
  have H3 : Hid ((decide ((192 : Int) ≤ c) && decide (c ≤ 214)) = false) := by show _ = _; simp; omega
  go_wp2_with fail
  refine (has_any 192 214 _ _ false H3).mono ?_; rintro e w4 ⟨rfl, hb4⟩
  have hz4 := hb4.size
  simp only [World.size_alloc] at hz4
  go_wp2_with fail
  rw [rounds_succ]
  by_cases h4 : 216 ≤ c ∧ c ≤ 246
  · have H4 : Hid ((decide ((216 : Int) ≤ c) && decide (c ≤ 246)) = true) := by show _ = _; simp [h4]
    have hv : Hid (startB c = true) := by show _ = _; unfold startB; simp; omega
    clear h4
    go_wp2_with fail
    refine (has_any 216 246 _ _ true H4).mono ?_; rintro e w5 ⟨rfl, hb5⟩
    have hz5 := hb5.size
    simp only [World.size_alloc] at hz5
    go_wp2_with fail
    go_ret
    exact ⟨by rw [hv.out]; rfl, (((((((((((((((hb0).alloc (by omega) _).trans (hb1.mono (by first | omega | (simp; done) | (simp; omega))))).alloc (by omega) _).trans (hb2.mono (by first | omega | (simp; done) | (simp; omega))))).alloc (by omega) _).trans (hb3.mono (by first | omega | (simp; done) | (simp; omega))))).alloc (by omega) _).trans (hb4.mono (by first | omega | (simp; done) | (simp; omega))))).alloc (by omega) _).trans (hb5.mono (by first | omega | (simp; done) | (simp; omega))))⟩
  have H4 : Hid ((decide ((216 : Int) ≤ c) && decide (c ≤ 246)) = false) := by show _ = _; simp; omega
  go_wp2_with fail
  refine (has_any 216 246 _ _ false H4).mono ?_; rintro e w5 ⟨rfl, hb5⟩
  have hz5 := hb5.size
  simp only [World.size_alloc] at hz5
  go_wp2_with fail
  rw [rounds_succ]
  by_cases h5 : 248 ≤ c ∧ c ≤ 767
  · have H5 : Hid ((decide ((248 : Int) ≤ c) && decide (c ≤ 767)) = true) := by show _ = _; simp [h5]
    have hv : Hid (startB c = true) := by show _ = _; unfold startB; simp; omega
    clear h5
    go_wp2_with fail
    refine (has_any 248 767 _ _ true H5).mono ?_; rintro e w6 ⟨rfl, hb6⟩
    have hz6 := hb6.size
    simp only [World.size_alloc] at hz6
    go_wp2_with fail
    go_ret
    exact ⟨by rw [hv.out]; rfl, ((((((((((((((((((hb0).alloc (by omega) _).trans (hb1.mono (by first | omega | (simp; done) | (simp; omega))))).alloc (by omega) _).trans (hb2.mono (by first | omega | (simp; done) | (simp; omega))))).alloc (by omega) _).trans (hb3.mono (by first | omega | (simp; done) | (simp; omega))))).alloc (by omega) _).trans (hb4.mono (by first | omega | (simp; done) | (simp; omega))))).alloc (by omega) _).trans (hb5.mono (by first | omega | (simp; done) | (simp; omega))))).alloc (by omega) _).trans (hb6.mono (by first | omega | (simp; done) | (simp; omega))))⟩
  have H5 : Hid ((decide ((248 : Int) ≤ c) && decide (c ≤ 767)) = false) := by show _ = _; simp; omega
  go_wp2_with fail
  refine (has_any 248 767 _ _ false H5).mono ?_; rintro e w6 ⟨rfl, hb6⟩
  have hz6 := hb6.size
  simp only [World.size_alloc] at hz6
  go_wp2_with fail
  rw [rounds_succ]
  by_cases h6 : 880 ≤ c ∧ c ≤ 893
  · have H6 : Hid ((decide ((880 : Int) ≤ c) && decide (c ≤ 893)) = true) := by show _ = _; simp [h6]
    have hv : Hid (startB c = true) := by show _ = _; unfold startB; simp; omega
    clear h6
    go_wp2_with fail
    refine (has_any 880 893 _ _ true H6).mono ?_; rintro e w7 ⟨rfl, hb7⟩
    have hz7 := hb7.size
    simp only [World.size_alloc] at hz7
    go_wp2_with fail
    go_ret
    exact ⟨by rw [hv.out]; rfl, (((((((((((((((((((((hb0).alloc (by omega) _).trans (hb1.mono (by first | omega | (simp; done) | (simp; omega))))).alloc (by omega) _).trans (hb2.mono (by first | omega | (simp; done) | (simp; omega))))).alloc (by omega) _).trans (hb3.mono (by first | omega | (simp; done) | (simp; omega))))).alloc (by omega) _).trans (hb4.mono (by first | omega | (simp; done) | (simp; omega))))).alloc (by omega) _).trans (hb5.mono (by first | omega | (simp; done) | (simp; omega))))).alloc (by omega) _).trans (hb6.mono (by first | omega | (simp; done) | (simp; omega))))).alloc (by omega) _).trans (hb7.mono (by first | omega | (simp; done) | (simp; omega))))⟩
  have H6 : Hid ((decide ((880 : Int) ≤ c) && decide (c ≤ 893)) = false) := by show _ = _; simp; omega
  go_wp2_with fail
  refine (has_any 880 893 _ _ false H6).mono ?_; rintro e w7 ⟨rfl, hb7⟩
  have hz7 := hb7.size
  simp only [World.size_alloc] at hz7
  go_wp2_with fail
  rw [rounds_succ]
  by_cases h7 : 895 ≤ c ∧ c ≤ 8191
  · have H7 : Hid ((decide ((895 : Int) ≤ c) && decide (c ≤ 8191)) = true) := by show _ = _; simp [h7]
    have hv : Hid (startB c = true) := by show _ = _; unfold startB; simp; omega
    clear h7
    go_wp2_with fail
    refine (has_any 895 8191 _ _ true H7).mono ?_; rintro e w8 ⟨rfl, hb8⟩
    have hz8 := hb8.size
    simp only [World.size_alloc] at hz8
    go_wp2_with fail
    go_ret
    exact ⟨by rw [hv.out]; rfl, ((((((((((((((((((((((((hb0).alloc (by omega) _).trans (hb1.mono (by first | omega | (simp; done) | (simp; omega))))).alloc (by omega) _).trans (hb2.mono (by first | omega | (simp; done) | (simp; omega))))).alloc (by omega) _).trans (hb3.mono (by first | omega | (simp; done) | (simp; omega))))).alloc (by omega) _).trans (hb4.mono (by first | omega | (simp; done) | (simp; omega))))).alloc (by omega) _).trans (hb5.mono (by first | omega | (simp; done) | (simp; omega))))).alloc (by omega) _).trans (hb6.mono (by first | omega | (simp; done) | (simp; omega))))).alloc (by omega) _).trans (hb7.mono (by first | omega | (simp; done) | (simp; omega))))).alloc (by omega) _).trans (hb8.mono (by first | omega | (simp; done) | (simp; omega))))⟩
  have H7 : Hid ((decide ((895 : Int) ≤ c) && decide (c ≤ 8191)) = false) := by show _ = _; simp; omega
  go_wp2_with fail
  refine (has_any 895 8191 _ _ false H7).mono ?_; rintro e w8 ⟨rfl, hb8⟩
  have hz8 := hb8.size
  simp only [World.size_alloc] at hz8
  go_wp2_with fail
  rw [rounds_succ]
  by_cases h8 : 8204 ≤ c ∧ c ≤ 8205
  · have H8 : Hid ((decide ((8204 : Int) ≤ c) && decide (c ≤ 8205)) = true) := by show _ = _; simp [h8]
    have hv : Hid (startB c = true) := by show _ = _; unfold startB; simp; omega
    clear h8
    go_wp2_with fail
    refine (has_any 8204 8205 _ _ true H8).mono ?_; rintro e w9 ⟨rfl, hb9⟩
    have hz9 := hb9.size
    simp only [World.size_alloc] at hz9
    go_wp2_with fail
    go_ret
    exact ⟨by rw [hv.out]; rfl, (((((((((((((((((((((((((((hb0).alloc (by omega) _).trans (hb1.mono (by first | omega | (simp; done) | (simp; omega))))).alloc (by omega) _).trans (hb2.mono (by first | omega | (simp; done) | (simp; omega))))).alloc (by omega) _).trans (hb3.mono (by first | omega | (simp; done) | (simp; omega))))).alloc (by omega) _).trans (hb4.mono (by first | omega | (simp; done) | (simp; omega))))).alloc (by omega) _).trans (hb5.mono (by first | omega | (simp; done) | (simp; omega))))).alloc (by omega) _).trans (hb6.mono (by first | omega | (simp; done) | (simp; omega))))).alloc (by omega) _).trans (hb7.mono (by first | omega | (simp; done) | (simp; omega))))).alloc (by omega) _).trans (hb8.mono (by first | omega | (simp; done) | (simp; omega))))).alloc (by omega) _).trans (hb9.mono (by first | omega | (simp; done) | (simp; omega))))⟩
  have H8 : Hid ((decide ((8204 : Int) ≤ c) && decide (c ≤ 8205)) = false) := by show _ = _; simp; omega
  go_wp2_with fail
  refine (has_any 8204 8205 _ _ false H8).mono ?_; rintro e w9 ⟨rfl, hb9⟩
  have hz9 := hb9.size
  simp only [World.size_alloc] at hz9
  go_wp2_with fail
  rw [rounds_succ]
  by_cases h9 : 8304 ≤ c ∧ c ≤ 8591
  · have H9 : Hid ((decide ((8304 : Int) ≤ c) && decide (c ≤ 8591)) = true) := by show _ = _; simp [h9]
    have hv : Hid (startB c = true) := by show _ = _; unfold startB; simp; omega
    clear h9
    go_wp2_with fail
    refine (has_any 8304 8591 _ _ true H9).mono ?_; rintro e w10 ⟨rfl, hb10⟩
    have hz10 := hb10.size
    simp only [World.size_alloc] at hz10
    go_wp2_with fail
    go_ret
    exact ⟨by rw [hv.out]; rfl, ((((((((((((((((((((((((((((((hb0).alloc (by omega) _).trans (hb1.mono (by first | omega | (simp; done) | (simp; omega))))).alloc (by omega) _).trans (hb2.mono (by first | omega | (simp; done) | (simp; omega))))).alloc (by omega) _).trans (hb3.mono (by first | omega | (simp; done) | (simp; omega))))).alloc (by omega) _).trans (hb4.mono (by first | omega | (simp; done) | (simp; omega))))).alloc (by omega) _).trans (hb5.mono (by first | omega | (simp; done) | (simp; omega))))).alloc (by omega) _).trans (hb6.mono (by first | omega | (simp; done) | (simp; omega))))).alloc (by omega) _).trans (hb7.mono (by first | omega | (simp; done) | (simp; omega))))).alloc (by omega) _).trans (hb8.mono (by first | omega | (simp; done) | (simp; omega))))).alloc (by omega) _).trans (hb9.mono (by first | omega | (simp; done) | (simp; omega))))).alloc (by omega) _).trans (hb10.mono (by first | omega | (simp; done) | (simp; omega))))⟩
  have H9 : Hid ((decide ((8304 : Int) ≤ c) && decide (c ≤ 8591)) = false) := by show _ = _; simp; omega
  go_wp2_with fail
  refine (has_any 8304 8591 _ _ false H9).mono ?_; rintro e w10 ⟨rfl, hb10⟩
  have hz10 := hb10.size
  simp only [World.size_alloc] at hz10
  go_wp2_with fail
  rw [rounds_succ]
  by_cases h10 : 11264 ≤ c ∧ c ≤ 12271
  · have H10 : Hid ((decide ((11264 : Int) ≤ c) && decide (c ≤ 12271)) = true) := by show _ = _; simp [h10]
    have hv : Hid (startB c = true) := by show _ = _; unfold startB; simp; omega
    clear h10
    go_wp2_with fail
    refine (has_any 11264 12271 _ _ true H10).mono ?_; rintro e w11 ⟨rfl, hb11⟩
    have hz11 := hb11.size
    simp only [World.size_alloc] at hz11
    go_wp2_with fail
    go_ret
    exact ⟨by rw [hv.out]; rfl, (((((((((((((((((((((((((((((((((hb0).alloc (by omega) _).trans (hb1.mono (by first | omega | (simp; done) | (simp; omega))))).alloc (by omega) _).trans (hb2.mono (by first | omega | (simp; done) | (simp; omega))))).alloc (by omega) _).trans (hb3.mono (by first | omega | (simp; done) | (simp; omega))))).alloc (by omega) _).trans (hb4.mono (by first | omega | (simp; done) | (simp; omega))))).alloc (by omega) _).trans (hb5.mono (by first | omega | (simp; done) | (simp; omega))))).alloc (by omega) _).trans (hb6.mono (by first | omega | (simp; done) | (simp; omega))))).alloc (by omega) _).trans (hb7.mono (by first | omega | (simp; done) | (simp; omega))))).alloc (by omega) _).trans (hb8.mono (by first | omega | (simp; done) | (simp; omega))))).alloc (by omega) _).trans (hb9.mono (by first | omega | (simp; done) | (simp; omega))))).alloc (by omega) _).trans (hb10.mono (by first | omega | (simp; done) | (simp; omega))))).alloc (by omega) _).trans (hb11.mono (by first | omega | (simp; done) | (simp; omega))))⟩
  have H10 : Hid ((decide ((11264 : Int) ≤ c) && decide (c ≤ 12271)) = false) := by show _ = _; simp; omega
  go_wp2_with fail
  refine (has_any 11264 12271 _ _ false H10).mono ?_; rintro e w11 ⟨rfl, hb11⟩
  have hz11 := hb11.size
  simp only [World.size_alloc] at hz11
  go_wp2_with fail
  rw [rounds_succ]
  by_cases h11 : 12289 ≤ c ∧ c ≤ 55295
  · have H11 : Hid ((decide ((12289 : Int) ≤ c) && decide (c ≤ 55295)) = true) := by show _ = _; simp [h11]
    have hv : Hid (startB c = true) := by show _ = _; unfold startB; simp; omega
    clear h11
    go_wp2_with fail
    refine (has_any 12289 55295 _ _ true H11).mono ?_; rintro e w12 ⟨rfl, hb12⟩
    have hz12 := hb12.size
    simp only [World.size_alloc] at hz12
    go_wp2_with fail
    go_ret
    exact ⟨by rw [hv.out]; rfl, ((((((((((((((((((((((((((((((((((((hb0).alloc (by omega) _).trans (hb1.mono (by first | omega | (simp; done) | (simp; omega))))).alloc (by omega) _).trans (hb2.mono (by first | omega | (simp; done) | (simp; omega))))).alloc (by omega) _).trans (hb3.mono (by first | omega | (simp; done) | (simp; omega))))).alloc (by omega) _).trans (hb4.mono (by first | omega | (simp; done) | (simp; omega))))).alloc (by omega) _).trans (hb5.mono (by first | omega | (simp; done) | (simp; omega))))).alloc (by omega) _).trans (hb6.mono (by first | omega | (simp; done) | (simp; omega))))).alloc (by omega) _).trans (hb7.mono (by first | omega | (simp; done) | (simp; omega))))).alloc (by omega) _).trans (hb8.mono (by first | omega | (simp; done) | (simp; omega))))).alloc (by omega) _).trans (hb9.mono (by first | omega | (simp; done) | (simp; omega))))).alloc (by omega) _).trans (hb10.mono (by first | omega | (simp; done) | (simp; omega))))).alloc (by omega) _).trans (hb11.mono (by first | omega | (simp; done) | (simp; omega))))).alloc (by omega) _).trans (hb12.mono (by first | omega | (simp; done) | (simp; omega))))⟩
  have H11 : Hid ((decide ((12289 : Int) ≤ c) && decide (c ≤ 55295)) = false) := by show _ = _; simp; omega
  go_wp2_with fail
  refine (has_any 12289 55295 _ _ false H11).mono ?_; rintro e w12 ⟨rfl, hb12⟩
  have hz12 := hb12.size
  simp only [World.size_alloc] at hz12
  go_wp2_with fail
  rw [rounds_succ]
  by_cases h12 : 63744 ≤ c ∧ c ≤ 64975
  · have H12 : Hid ((decide ((63744 : Int) ≤ c) && decide (c ≤ 64975)) = true) := by show _ = _; simp [h12]
    have hv : Hid (startB c = true) := by show _ = _; unfold startB; simp; omega
    clear h12
    go_wp2_with fail
    refine (has_any 63744 64975 _ _ true H12).mono ?_; rintro e w13 ⟨rfl, hb13⟩
    have hz13 := hb13.size
    simp only [World.size_alloc] at hz13
    go_wp2_with fail
    go_ret
    exact ⟨by rw [hv.out]; rfl, (((((((((((((((((((((((((((((((((((((((hb0).alloc (by omega) _).trans (hb1.mono (by first | omega | (simp; done) | (simp; omega))))).alloc (by omega) _).trans (hb2.mono (by first | omega | (simp; done) | (simp; omega))))).alloc (by omega) _).trans (hb3.mono (by first | omega | (simp; done) | (simp; omega))))).alloc (by omega) _).trans (hb4.mono (by first | omega | (simp; done) | (simp; omega))))).alloc (by omega) _).trans (hb5.mono (by first | omega | (simp; done) | (simp; omega))))).alloc (by omega) _).trans (hb6.mono (by first | omega | (simp; done) | (simp; omega))))).alloc (by omega) _).trans (hb7.mono (by first | omega | (simp; done) | (simp; omega))))).alloc (by omega) _).trans (hb8.mono (by first | omega | (simp; done) | (simp; omega))))).alloc (by omega) _).trans (hb9.mono (by first | omega | (simp; done) | (simp; omega))))).alloc (by omega) _).trans (hb10.mono (by first | omega | (simp; done) | (simp; omega))))).alloc (by omega) _).trans (hb11.mono (by first | omega | (simp; done) | (simp; omega))))).alloc (by omega) _).trans (hb12.mono (by first | omega | (simp; done) | (simp; omega))))).alloc (by omega) _).trans (hb13.mono (by first | omega | (simp; done) | (simp; omega))))⟩
  have H12 : Hid ((decide ((63744 : Int) ≤ c) && decide (c ≤ 64975)) = false) := by show _ = _; simp; omega
  go_wp2_with fail
  refine (has_any 63744 64975 _ _ false H12).mono ?_; rintro e w13 ⟨rfl, hb13⟩
  have hz13 := hb13.size
  simp only [World.size_alloc] at hz13
  go_wp2_with fail
  rw [rounds_succ]
  by_cases h13 : 65008 ≤ c ∧ c ≤ 65533
  · have H13 : Hid ((decide ((65008 : Int) ≤ c) && decide (c ≤ 65533)) = true) := by show _ = _; simp [h13]
    have hv : Hid (startB c = true) := by show _ = _; unfold startB; simp; omega
    clear h13
    go_wp2_with fail
    refine (has_any 65008 65533 _ _ true H13).mono ?_; rintro e w14 ⟨rfl, hb14⟩
    have hz14 := hb14.size
    simp only [World.size_alloc] at hz14
    go_wp2_with fail
    go_ret
    exact ⟨by rw [hv.out]; rfl, ((((((((((((((((((((((((((((((((((((((((((hb0).alloc (by omega) _).trans (hb1.mono (by first | omega | (simp; done) | (simp; omega))))).alloc (by omega) _).trans (hb2.mono (by first | omega | (simp; done) | (simp; omega))))).alloc (by omega) _).trans (hb3.mono (by first | omega | (simp; done) | (simp; omega))))).alloc (by omega) _).trans (hb4.mono (by first | omega | (simp; done) | (simp; omega))))).alloc (by omega) _).trans (hb5.mono (by first | omega | (simp; done) | (simp; omega))))).alloc (by omega) _).trans (hb6.mono (by first | omega | (simp; done) | (simp; omega))))).alloc (by omega) _).trans (hb7.mono (by first | omega | (simp; done) | (simp; omega))))).alloc (by omega) _).trans (hb8.mono (by first | omega | (simp; done) | (simp; omega))))).alloc (by omega) _).trans (hb9.mono (by first | omega | (simp; done) | (simp; omega))))).alloc (by omega) _).trans (hb10.mono (by first | omega | (simp; done) | (simp; omega))))).alloc (by omega) _).trans (hb11.mono (by first | omega | (simp; done) | (simp; omega))))).alloc (by omega) _).trans (hb12.mono (by first | omega | (simp; done) | (simp; omega))))).alloc (by omega) _).trans (hb13.mono (by first | omega | (simp; done) | (simp; omega))))).alloc (by omega) _).trans (hb14.mono (by first | omega | (simp; done) | (simp; omega))))⟩
  have H13 : Hid ((decide ((65008 : Int) ≤ c) && decide (c ≤ 65533)) = false) := by show _ = _; simp; omega
  go_wp2_with fail
  refine (has_any 65008 65533 _ _ false H13).mono ?_; rintro e w14 ⟨rfl, hb14⟩
  have hz14 := hb14.size
  simp only [World.size_alloc] at hz14
  go_wp2_with fail
  rw [rounds_succ]
  by_cases h14 : 65536 ≤ c ∧ c ≤ 983039
  · have H14 : Hid ((decide ((65536 : Int) ≤ c) && decide (c ≤ 983039)) = true) := by show _ = _; simp [h14]
    have hv : Hid (startB c = true) := by show _ = _; unfold startB; simp; omega
    clear h14
    go_wp2_with fail
    refine (has_any 65536 983039 _ _ true H14).mono ?_; rintro e w15 ⟨rfl, hb15⟩
    have hz15 := hb15.size
    simp only [World.size_alloc] at hz15
    go_wp2_with fail
    go_ret
    exact ⟨by rw [hv.out]; rfl, (((((((((((((((((((((((((((((((((((((((((((((hb0).alloc (by omega) _).trans (hb1.mono (by first | omega | (simp; done) | (simp; omega))))).alloc (by omega) _).trans (hb2.mono (by first | omega | (simp; done) | (simp; omega))))).alloc (by omega) _).trans (hb3.mono (by first | omega | (simp; done) | (simp; omega))))).alloc (by omega) _).trans (hb4.mono (by first | omega | (simp; done) | (simp; omega))))).alloc (by omega) _).trans (hb5.mono (by first | omega | (simp; done) | (simp; omega))))).alloc (by omega) _).trans (hb6.mono (by first | omega | (simp; done) | (simp; omega))))).alloc (by omega) _).trans (hb7.mono (by first | omega | (simp; done) | (simp; omega))))).alloc (by omega) _).trans (hb8.mono (by first | omega | (simp; done) | (simp; omega))))).alloc (by omega) _).trans (hb9.mono (by first | omega | (simp; done) | (simp; omega))))).alloc (by omega) _).trans (hb10.mono (by first | omega | (simp; done) | (simp; omega))))).alloc (by omega) _).trans (hb11.mono (by first | omega | (simp; done) | (simp; omega))))).alloc (by omega) _).trans (hb12.mono (by first | omega | (simp; done) | (simp; omega))))).alloc (by omega) _).trans (hb13.mono (by first | omega | (simp; done) | (simp; omega))))).alloc (by omega) _).trans (hb14.mono (by first | omega | (simp; done) | (simp; omega))))).alloc (by omega) _).trans (hb15.mono (by first | omega | (simp; done) | (simp; omega))))⟩
  have H14 : Hid ((decide ((65536 : Int) ≤ c) && decide (c ≤ 983039)) = false) := by show _ = _; simp; omega
  go_wp2_with fail
  refine (has_any 65536 983039 _ _ false H14).mono ?_; rintro e w15 ⟨rfl, hb15⟩
  have hz15 := hb15.size
  simp only [World.size_alloc] at hz15
  go_wp2_with fail
  rw [rounds_succ]
  have hv : Hid (startB c = false) := by show _ = _; unfold startB; simp; omega
  clear h0 h1 h2 h3 h4 h5 h6 h7 h8 h9 h10 h11 h12 h13 h14
  go_wp2_with fail
  go_ret
  exact ⟨by rw [hv.out]; rfl, (((((((((((((((((((((((((((((((((((((((((((((hb0).alloc (by omega) _).trans (hb1.mono (by first | omega | (simp; done) | (simp; omega))))).alloc (by omega) _).trans (hb2.mono (by first | omega | (simp; done) | (simp; omega))))).alloc (by omega) _).trans (hb3.mono (by first | omega | (simp; done) | (simp; omega))))).alloc (by omega) _).trans (hb4.mono (by first | omega | (simp; done) | (simp; omega))))).alloc (by omega) _).trans (hb5.mono (by first | omega | (simp; done) | (simp; omega))))).alloc (by omega) _).trans (hb6.mono (by first | omega | (simp; done) | (simp; omega))))).alloc (by omega) _).trans (hb7.mono (by first | omega | (simp; done) | (simp; omega))))).alloc (by omega) _).trans (hb8.mono (by first | omega | (simp; done) | (simp; omega))))).alloc (by omega) _).trans (hb9.mono (by first | omega | (simp; done) | (simp; omega))))).alloc (by omega) _).trans (hb10.mono (by first | omega | (simp; done) | (simp; omega))))).alloc (by omega) _).trans (hb11.mono (by first | omega | (simp; done) | (simp; omega))))).alloc (by omega) _).trans (hb12.mono (by first | omega | (simp; done) | (simp; omega))))).alloc (by omega) _).trans (hb13.mono (by first | omega | (simp; done) | (simp; omega))))).alloc (by omega) _).trans (hb14.mono (by first | omega | (simp; done) | (simp; omega))))).alloc (by omega) _).trans (hb15.mono (by first | omega | (simp; done) | (simp; omega))))⟩
end Go.Proofs.Ythifddkmbjnncaa

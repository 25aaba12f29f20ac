/-
  The walk of glyph.Part.
-/
import Derived.Test.YthifddkmbjnncaaStart
namespace Go.Proofs.Ythifddkmbjnncaa
open Go.RowKit


set_option maxRecDepth 100000 in
set_option maxHeartbeats 4000000 in
theorem Part_any (c : Int) (w : World) :
    Calls Try.prog 46 #[.int .i32 c] w (Ret w (.bool (partB c))) := by
  have q0 := pt_0
  have q1 := pt_1
  have q2 := pt_2
  have q3 := pt_3
  have q4 := pt_4
  have ht : (#[Value.int .i32 45, Value.int .i32 46, Value.int .i32 48, Value.int .i32 57, Value.int .i32 183, Value.int .i32 183, Value.int .i32 768, Value.int .i32 879, Value.int .i32 8255, Value.int .i32 8256] : Array Value) = partsTab := rfl
  go_enter Try.func46, Try.ntmps46
  go_wp2_with fail
  refine wp_loop_rounds 6 ?_
  rw [rounds_succ]
  by_cases h0 : 45 ≤ c ∧ c ≤ 46
  · have H0 : Hid ((decide ((45 : Int) ≤ c) && decide (c ≤ 46)) = true) := by show _ = _; simp [h0]
    have hv : Hid (partB c = true) := by show _ = _; unfold partB; simp; right; omega
    clear h0
    go_wp2_with fail
    refine (has_any 45 46 _ _ true H0).mono ?_; rintro e w1 ⟨rfl, hb1⟩
    have hz1 := hb1.size
    simp only [World.size_alloc] at hz1
    go_wp2_with fail
    go_ret
    exact ⟨by rw [hv.out]; rfl, ((((Below.refl w.heap.size w)).alloc (by omega) _).trans (hb1.mono (by first | omega | (simp; done) | (simp; omega))))⟩
  have H0 : Hid ((decide ((45 : Int) ≤ c) && decide (c ≤ 46)) = false) := by show _ = _; simp; omega
  go_wp2_with fail
  refine (has_any 45 46 _ _ false H0).mono ?_; rintro e w1 ⟨rfl, hb1⟩
  have hz1 := hb1.size
  simp only [World.size_alloc] at hz1
  go_wp2_with fail
  rw [rounds_succ]
  by_cases h1 : 48 ≤ c ∧ c ≤ 57
  · have H1 : Hid ((decide ((48 : Int) ≤ c) && decide (c ≤ 57)) = true) := by show _ = _; simp [h1]
    have hv : Hid (partB c = true) := by show _ = _; unfold partB; simp; right; omega
    clear h1
    go_wp2_with fail
    refine (has_any 48 57 _ _ true H1).mono ?_; rintro e w2 ⟨rfl, hb2⟩
    have hz2 := hb2.size
    simp only [World.size_alloc] at hz2
    go_wp2_with fail
    go_ret
    exact ⟨by rw [hv.out]; rfl, (((((((Below.refl w.heap.size w)).alloc (by omega) _).trans (hb1.mono (by first | omega | (simp; done) | (simp; omega))))).alloc (by omega) _).trans (hb2.mono (by first | omega | (simp; done) | (simp; omega))))⟩
  have H1 : Hid ((decide ((48 : Int) ≤ c) && decide (c ≤ 57)) = false) := by show _ = _; simp; omega
  go_wp2_with fail
  refine (has_any 48 57 _ _ false H1).mono ?_; rintro e w2 ⟨rfl, hb2⟩
  have hz2 := hb2.size
  simp only [World.size_alloc] at hz2
  go_wp2_with fail
  rw [rounds_succ]
  by_cases h2 : 183 ≤ c ∧ c ≤ 183
  · have H2 : Hid ((decide ((183 : Int) ≤ c) && decide (c ≤ 183)) = true) := by show _ = _; simp [h2]
    have hv : Hid (partB c = true) := by show _ = _; unfold partB; simp; right; omega
    clear h2
    go_wp2_with fail
    refine (has_any 183 183 _ _ true H2).mono ?_; rintro e w3 ⟨rfl, hb3⟩
    have hz3 := hb3.size
    simp only [World.size_alloc] at hz3
    go_wp2_with fail
    go_ret
    exact ⟨by rw [hv.out]; rfl, ((((((((((Below.refl w.heap.size w)).alloc (by omega) _).trans (hb1.mono (by first | omega | (simp; done) | (simp; omega))))).alloc (by omega) _).trans (hb2.mono (by first | omega | (simp; done) | (simp; omega))))).alloc (by omega) _).trans (hb3.mono (by first | omega | (simp; done) | (simp; omega))))⟩
  have H2 : Hid ((decide ((183 : Int) ≤ c) && decide (c ≤ 183)) = false) := by show _ = _; simp; omega
  go_wp2_with fail
  refine (has_any 183 183 _ _ false H2).mono ?_; rintro e w3 ⟨rfl, hb3⟩
  have hz3 := hb3.size
  simp only [World.size_alloc] at hz3
  go_wp2_with fail
  rw [rounds_succ]
  by_cases h3 : 768 ≤ c ∧ c ≤ 879
  · have H3 : Hid ((decide ((768 : Int) ≤ c) && decide (c ≤ 879)) = true) := by show _ = _; simp [h3]
    have hv : Hid (partB c = true) := by show _ = _; unfold partB; simp; right; omega
    clear h3
    go_wp2_with fail
    refine (has_any 768 879 _ _ true H3).mono ?_; rintro e w4 ⟨rfl, hb4⟩
    have hz4 := hb4.size
    simp only [World.size_alloc] at hz4
    go_wp2_with fail
    go_ret
    exact ⟨by rw [hv.out]; rfl, (((((((((((((Below.refl w.heap.size w)).alloc (by omega) _).trans (hb1.mono (by first | omega | (simp; done) | (simp; omega))))).alloc (by omega) _).trans (hb2.mono (by first | omega | (simp; done) | (simp; omega))))).alloc (by omega) _).trans (hb3.mono (by first | omega | (simp; done) | (simp; omega))))).alloc (by omega) _).trans (hb4.mono (by first | omega | (simp; done) | (simp; omega))))⟩
  have H3 : Hid ((decide ((768 : Int) ≤ c) && decide (c ≤ 879)) = false) := by show _ = _; simp; omega
  go_wp2_with fail
  refine (has_any 768 879 _ _ false H3).mono ?_; rintro e w4 ⟨rfl, hb4⟩
  have hz4 := hb4.size
  simp only [World.size_alloc] at hz4
  go_wp2_with fail
  rw [rounds_succ]
  by_cases h4 : 8255 ≤ c ∧ c ≤ 8256
  · have H4 : Hid ((decide ((8255 : Int) ≤ c) && decide (c ≤ 8256)) = true) := by show _ = _; simp [h4]
    have hv : Hid (partB c = true) := by show _ = _; unfold partB; simp; right; omega
    clear h4
    go_wp2_with fail
    refine (has_any 8255 8256 _ _ true H4).mono ?_; rintro e w5 ⟨rfl, hb5⟩
    have hz5 := hb5.size
    simp only [World.size_alloc] at hz5
    go_wp2_with fail
    go_ret
    exact ⟨by rw [hv.out]; rfl, ((((((((((((((((Below.refl w.heap.size w)).alloc (by omega) _).trans (hb1.mono (by first | omega | (simp; done) | (simp; omega))))).alloc (by omega) _).trans (hb2.mono (by first | omega | (simp; done) | (simp; omega))))).alloc (by omega) _).trans (hb3.mono (by first | omega | (simp; done) | (simp; omega))))).alloc (by omega) _).trans (hb4.mono (by first | omega | (simp; done) | (simp; omega))))).alloc (by omega) _).trans (hb5.mono (by first | omega | (simp; done) | (simp; omega))))⟩
  have H4 : Hid ((decide ((8255 : Int) ≤ c) && decide (c ≤ 8256)) = false) := by show _ = _; simp; omega
  go_wp2_with fail
  refine (has_any 8255 8256 _ _ false H4).mono ?_; rintro e w5 ⟨rfl, hb5⟩
  have hz5 := hb5.size
  simp only [World.size_alloc] at hz5
  go_wp2_with fail
  rw [rounds_succ]
  have hv : Hid (partB c = startB c) := by show _ = _; unfold partB; rw [Bool.or_eq_left_iff_imp]; simp; omega
  clear h0 h1 h2 h3 h4
  go_wp2_with fail
  refine (Start_any _ _).mono ?_; rintro e w9 ⟨rfl, hb9⟩
  have hz9 := hb9.size
  go_wp2_with fail
  go_ret
  exact ⟨by rw [hv.out]; rfl, (((((((((((((((((Below.refl w.heap.size w)).alloc (by omega) _).trans (hb1.mono (by first | omega | (simp; done) | (simp; omega))))).alloc (by omega) _).trans (hb2.mono (by first | omega | (simp; done) | (simp; omega))))).alloc (by omega) _).trans (hb3.mono (by first | omega | (simp; done) | (simp; omega))))).alloc (by omega) _).trans (hb4.mono (by first | omega | (simp; done) | (simp; omega))))).alloc (by omega) _).trans (hb5.mono (by first | omega | (simp; done) | (simp; omega))))).trans (hb9.mono (by omega))⟩
end Go.Proofs.Ythifddkmbjnncaa

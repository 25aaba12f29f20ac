/-
  Texts of this claim, joined (by a program of the claim's author): PqL, PqM, PqN.
-/
import Derived.Test.YtpfhdklbhhpbcaaDoorQ1
import Derived.Test.YtpfhdklbhhpbcaaDoorQ7
import Derived.Test.YtpfhdklbhhpbcaaDoorQ12
import Derived.Test.YtpfhdklbhhpbcaaDoorQ8
import Derived.Lib.ItoaNum
/-
  The walk of the document's rightPred.
-/
namespace Go.Proofs.YtpfhdklbhhpbcaaDoor
open Go.RowKit

theorem RCount_q (s : List UInt8) (w : World) (hs : s.length ≤ 1000000000) (n : Int) (h : Hid (countL s = n)) :
    Calls Tryd.prog 40 #[.string ⟨s.toArray⟩] w (Ret w (.int .i64 n)) := RCount_as _ w (by show s.toArray.size ≤ 1000000000; simpa using hs) n h

theorem RName_q (s : List UInt8) (w : World) (hs : s.length ≤ 1000000000) (r : Bool) (h : Hid (nameL s = r)) :
    Calls Tryd.prog 24 #[.string ⟨s.toArray⟩] w (Ret w (.bool r)) := RName_any _ w (by show s.toArray.size ≤ 1000000000; simpa using hs) r h



set_option maxRecDepth 100000 in
set_option maxHeartbeats 4000000 in
theorem rright_1 (num : Int) (name value : List UInt8) (w : World) (hn : name.length ≤ 1000000000) (hvl : value.length ≤ 1000000000) :
    Calls Tryd.prog 25 #[.agg #[.int .i64 1, .int .i64 num, .string ⟨name.toArray⟩, .string ⟨value.toArray⟩]] w (Ret w (.bool (decide (1 ≤ num ∧ num ≤ 9999) && decide (name = [] ∧ value = [])))) := by
  obtain ⟨v, hv⟩ : ∃ v, Hid (nameL name = v) := ⟨_, rfl⟩
  obtain ⟨n, hc⟩ : ∃ n, Hid (countL value = n) := ⟨_, rfl⟩
  try rw [hv.out]
  try rw [hc.out]
  have hneg : n < 0 → value ≠ [] := fun h e => by rw [← hc.out, e] at h; revert h; decide
  have hnem : v = true → name ≠ [] := fun h e => by rw [← hv.out, e] at h; revert h; decide
  obtain ⟨W1, hW1⟩ : ∃ W1, Hid (W1 = w.alloc (.cells #[.int .i64 1, .int .i64 num, .string ⟨name.toArray⟩, .string ⟨value.toArray⟩] 39)) := ⟨_, rfl⟩
  have hb1 : Below w.heap.size w W1 := by rw [hW1.out]; exact (Below.refl _ w).alloc (Nat.le_refl _) _
  have hz1 : w.heap.size < W1.heap.size := by rw [hW1.out]; simp
  have y : ∀ (j : Nat) (u : Value), (#[.int .i64 1, .int .i64 num, .string ⟨name.toArray⟩, .string ⟨value.toArray⟩] : Array Value)[j]? = some u → W1.cell? ⟨w.heap.size, j, none⟩ = some u := fun j u hu => by rw [hW1.out, World.cell?_alloc_at _ _ _ _ rfl]; exact hu
  have HY := Lib.hid y
  clear y
  go_enter Tryd.func25, Tryd.ntmps25
  go_wp2_with fail
  rw [← hW1.out]
  refine (RCount_q value W1 hvl n hc).mono ?_
  rintro e w2 ⟨rfl, hb2⟩
  have c0 : w2.cell? ⟨w.heap.size, 0, none⟩ = some (.int .i64 1) := (hb2.cell hz1).trans (HY.out 0 _ rfl)
  have c1 : w2.cell? ⟨w.heap.size, 1, none⟩ = some (.int .i64 num) := (hb2.cell hz1).trans (HY.out 1 _ rfl)
  have c2 : w2.cell? ⟨w.heap.size, 2, none⟩ = some (.string ⟨name.toArray⟩) := (hb2.cell hz1).trans (HY.out 2 _ rfl)
  have c3 : w2.cell? ⟨w.heap.size, 3, none⟩ = some (.string ⟨value.toArray⟩) := (hb2.cell hz1).trans (HY.out 3 _ rfl)
  have hz2 : w.heap.size < w2.heap.size := Nat.lt_of_lt_of_le hz1 hb2.size
  have HB := Lib.hid (hb1.trans (hb2.mono (Nat.le_of_lt hz1)))
  have HS : Hid (w2.drew.cell? ⟨w.heap.size, 0, none⟩ = some (.int .i64 1) ∧ w2.drew.cell? ⟨w.heap.size, 2, none⟩ = some (.string ⟨name.toArray⟩)) := ⟨c0, c2⟩
  have HC3 := Lib.hid c3
  clear hb1 hb2
  by_cases h0 : n < 0
  · have h0v := hneg h0
    go_wp2_with fail
    all_goals go_ret
    all_goals refine ⟨?_, HB.out⟩
    all_goals (refine congrArg (fun b => Ending.returned (Value.bool b)) ?_)
    all_goals simp_all
    all_goals first | (cases value <;> rfl) | (cases name <;> rfl) | (cases name <;> cases value <;> rfl) | (intros; first | omega | assumption | simp_all)
  have h0' : 0 ≤ n := by omega
  clear h0 hneg
  by_cases hz : 1 ≤ num
  · by_cases hzz : num ≤ 9999
    · go_wp2_with fail
      refine wp_region_held_drew (S := fun w' => w'.cell? ⟨w.heap.size, 0, none⟩ = some (.int .i64 1) ∧ w'.cell? ⟨w.heap.size, 2, none⟩ = some (.string ⟨name.toArray⟩)) (by kernel_rfl) HS.out (fun hHeld => ?_)
      refine tks (oi := ⟨_, _, _, _, _, _⟩) (v := ?_) 0 rfl (.inl ⟨by rfl, ?_⟩) ?_; rotate_left
      · (intro wS hSw; (try dsimp only at hSw); go_simp); all_goals with_reducible rfl
      try go_frame
      refine tks (oi := ⟨_, _, _, _, _, _⟩) (v := ?_) 1 rfl (.inl ⟨by rfl, ?_⟩) ?_; rotate_left
      · (intro wS hSw; (try dsimp only at hSw); go_simp); all_goals with_reducible rfl
      try go_frame
      refine tks (oi := ⟨_, _, _, _, _, _⟩) (v := ?_) 2 rfl (.inl ⟨by rfl, ?_⟩) ?_; rotate_left
      · (intro wS hSw; (try dsimp only at hSw); go_simp); all_goals with_reducible rfl
      try go_frame
      refine tks (oi := ⟨_, _, _, _, _, _⟩) (v := ?_) 3 rfl (.inl ⟨by rfl, ?_⟩) ?_; rotate_left
      · (intro wS hSw; (try dsimp only at hSw); go_simp); all_goals with_reducible rfl
      try go_frame
      refine tks (oi := ⟨_, _, _, _, _, _⟩) (v := ?_) 4 rfl (.inl ⟨by rfl, ?_⟩) ?_; rotate_left
      · (intro wS hSw; (try dsimp only at hSw); go_simp); all_goals with_reducible rfl
      try go_frame
      refine tks (oi := ⟨_, _, _, _, _, _⟩) (v := ?_) 5 rfl (.inl ⟨by rfl, ?_⟩) ?_; rotate_left
      · (intro wS hSw; (try dsimp only at hSw); go_simp); all_goals with_reducible rfl
      try go_frame
      refine tks (oi := ⟨_, _, _, _, _, _⟩) (v := ?_) 6 rfl (.inl ⟨by rfl, ?_⟩) ?_; rotate_left
      · (intro wS hSw; (try dsimp only at hSw); go_simp); all_goals with_reducible rfl
      try go_frame
      refine tks (oi := ⟨_, _, _, _, _, _⟩) (v := ?_) 7 rfl (.inl ⟨by rfl, ?_⟩) ?_; rotate_left
      · (intro wS hSw; (try dsimp only at hSw); go_simp); all_goals with_reducible rfl
      try go_frame
      refine tks (oi := ⟨_, _, _, _, _, _⟩) (v := ?_) 8 rfl (.inl ⟨by rfl, ?_⟩) ?_; rotate_left
      · (intro wS hSw; (try dsimp only at hSw); go_simp); all_goals with_reducible rfl
      try go_frame
      refine tks (oi := ⟨_, _, _, _, _, _⟩) (v := ?_) 9 rfl (.inl ⟨by rfl, ?_⟩) ?_; rotate_left
      · (intro wS hSw; (try dsimp only at hSw); go_simp); all_goals with_reducible rfl
      try go_frame
      refine wpAnyH_ready (rs := [10]) (by kernel_rfl) (by simp) ?_
      refine AllReadyH.cons (o := ⟨_, _, _, _, _, _⟩) rfl (fun K hK => ?_) AllReadyH.nil
      go_simp
      refine (RName_q name _ hn v hv).mono ?_
      rintro e5 w5 ⟨rfl, hb5⟩
      have hb5' : Below w2.heap.size w2 w5 := ((Below.refl _ w2).drew).trans hb5
      have HB5 := Lib.hid (HB.out.trans (hb5'.mono (Nat.le_of_lt hz2)))
      have HS5 : Hid (w5.cell? ⟨w.heap.size, 0, none⟩ = some (.int .i64 1) ∧ w5.cell? ⟨w.heap.size, 2, none⟩ = some (.string ⟨name.toArray⟩)) := ⟨(hb5'.cell (p := ⟨w.heap.size, 0, none⟩) hz2).trans HS.out.1, (hb5'.cell (p := ⟨w.heap.size, 2, none⟩) hz2).trans HS.out.2⟩
      have d0 : w5.cell? ⟨w.heap.size, 0, none⟩ = some (.int .i64 1) := HS5.out.1
      have d3 : w5.cell? ⟨w.heap.size, 3, none⟩ = some (.string ⟨value.toArray⟩) := (hb5'.cell (p := ⟨w.heap.size, 3, none⟩) hz2).trans HC3.out
      have D0 := Lib.hid d0
      have D3 := Lib.hid d3
      clear hb5 hb5' d0 d3 c0 c1 c2 c3
      go_wp2_with fail
      refine hK.out _ _ (HS5.out) (fun hHeld => ?_)
      clear hK K
      try go_frame
      cases v with
      | true =>
        have hne := hnem rfl
        clear hnem
        refine tks (oi := ⟨_, _, _, _, _, _⟩) (v := ?_) 11 rfl (.inl ⟨by rfl, ?_⟩) ?_; rotate_left
        · (intro wS hSw; (try dsimp only at hSw); go_simp); all_goals with_reducible rfl
        try go_frame
        refine tks (oi := ⟨_, _, _, _, _, _⟩) (v := ?_) 12 rfl (.inl ⟨by rfl, ?_⟩) ?_; rotate_left
        · (intro wS hSw; (try dsimp only at hSw); go_simp); all_goals with_reducible rfl
        try go_frame
        refine tks (oi := ⟨_, _, _, _, _, _⟩) (v := undef) 13 rfl (.inr ⟨by rfl, rfl⟩) ?_
        try go_frame
        refine tks (oi := ⟨_, _, _, _, _, _⟩) (v := undef) 14 rfl (.inr ⟨by rfl, rfl⟩) ?_
        try go_frame
        refine tks (oi := ⟨_, _, _, _, _, _⟩) (v := undef) 15 rfl (.inr ⟨by rfl, rfl⟩) ?_
        try go_frame
        refine tks (oi := ⟨_, _, _, _, _, _⟩) (v := undef) 16 rfl (.inr ⟨by rfl, rfl⟩) ?_
        try go_frame
        refine tks (oi := ⟨_, _, _, _, _, _⟩) (v := undef) 17 rfl (.inr ⟨by rfl, rfl⟩) ?_
        try go_frame
        refine tks (oi := ⟨_, _, _, _, _, _⟩) (v := undef) 18 rfl (.inr ⟨by rfl, rfl⟩) ?_
        try go_frame
        refine tks (oi := ⟨_, _, _, _, _, _⟩) (v := undef) 19 rfl (.inr ⟨by rfl, rfl⟩) ?_
        try go_frame
        refine tks (oi := ⟨_, _, _, _, _, _⟩) (v := undef) 20 rfl (.inr ⟨by rfl, rfl⟩) ?_
        try go_frame
        refine tks (oi := ⟨_, _, _, _, _, _⟩) (v := undef) 21 rfl (.inr ⟨by rfl, rfl⟩) ?_
        try go_frame
        refine tks (oi := ⟨_, _, _, _, _, _⟩) (v := undef) 22 rfl (.inr ⟨by rfl, rfl⟩) ?_
        try go_frame
        refine tks (oi := ⟨_, _, _, _, _, _⟩) (v := undef) 23 rfl (.inr ⟨by rfl, rfl⟩) ?_
        try go_frame
        refine tks (oi := ⟨_, _, _, _, _, _⟩) (v := undef) 24 rfl (.inr ⟨by rfl, rfl⟩) ?_
        try go_frame
        refine tks (oi := ⟨_, _, _, _, _, _⟩) (v := undef) 25 rfl (.inr ⟨by rfl, rfl⟩) ?_
        try go_frame
        refine tks (oi := ⟨_, _, _, _, _, _⟩) (v := ?_) 26 rfl (.inl ⟨by rfl, ?_⟩) ?_; rotate_left
        · (intro wS hSw; (try dsimp only at hSw); go_simp); all_goals with_reducible rfl
        try go_frame
        refine wpAnyH_done (by kernel_rfl) ?_ _
        clear hHeld
        have d0 := D0.out
        have d3 := D3.out
        go_wp2_with fail
        all_goals go_ret
        all_goals refine ⟨?_, HB5.out⟩
        all_goals (refine congrArg (fun b => Ending.returned (Value.bool b)) ?_)
        all_goals simp_all
        all_goals first | (cases value <;> rfl) | (cases name <;> rfl) | (cases name <;> cases value <;> rfl) | (intros; first | omega | assumption | simp_all)
      | false =>
        clear hnem
        refine tks (oi := ⟨_, _, _, _, _, _⟩) (v := ?_) 11 rfl (.inl ⟨by rfl, ?_⟩) ?_; rotate_left
        · (intro wS hSw; (try dsimp only at hSw); go_simp); all_goals with_reducible rfl
        try go_frame
        refine tks (oi := ⟨_, _, _, _, _, _⟩) (v := ?_) 12 rfl (.inl ⟨by rfl, ?_⟩) ?_; rotate_left
        · (intro wS hSw; (try dsimp only at hSw); go_simp); all_goals with_reducible rfl
        try go_frame
        refine tks (oi := ⟨_, _, _, _, _, _⟩) (v := ?_) 13 rfl (.inl ⟨by rfl, ?_⟩) ?_; rotate_left
        · (intro wS hSw; (try dsimp only at hSw); go_simp); all_goals with_reducible rfl
        try go_frame
        refine tks (oi := ⟨_, _, _, _, _, _⟩) (v := ?_) 14 rfl (.inl ⟨by rfl, ?_⟩) ?_; rotate_left
        · (intro wS hSw; (try dsimp only at hSw); go_simp); all_goals with_reducible rfl
        try go_frame
        refine tks (oi := ⟨_, _, _, _, _, _⟩) (v := ?_) 15 rfl (.inl ⟨by rfl, ?_⟩) ?_; rotate_left
        · (intro wS hSw; (try dsimp only at hSw); go_simp); all_goals with_reducible rfl
        try go_frame
        refine tks (oi := ⟨_, _, _, _, _, _⟩) (v := ?_) 16 rfl (.inl ⟨by rfl, ?_⟩) ?_; rotate_left
        · (intro wS hSw; (try dsimp only at hSw); go_simp); all_goals with_reducible rfl
        try go_frame
        refine tks (oi := ⟨_, _, _, _, _, _⟩) (v := ?_) 17 rfl (.inl ⟨by rfl, ?_⟩) ?_; rotate_left
        · (intro wS hSw; (try dsimp only at hSw); go_simp); all_goals with_reducible rfl
        try go_frame
        refine tks (oi := ⟨_, _, _, _, _, _⟩) (v := ?_) 18 rfl (.inl ⟨by rfl, ?_⟩) ?_; rotate_left
        · (intro wS hSw; (try dsimp only at hSw); go_simp); all_goals with_reducible rfl
        try go_frame
        refine tks (oi := ⟨_, _, _, _, _, _⟩) (v := ?_) 19 rfl (.inl ⟨by rfl, ?_⟩) ?_; rotate_left
        · (intro wS hSw; (try dsimp only at hSw); go_simp); all_goals with_reducible rfl
        try go_frame
        refine tks (oi := ⟨_, _, _, _, _, _⟩) (v := ?_) 20 rfl (.inl ⟨by rfl, ?_⟩) ?_; rotate_left
        · (intro wS hSw; (try dsimp only at hSw); go_simp); all_goals with_reducible rfl
        try go_frame
        refine tks (oi := ⟨_, _, _, _, _, _⟩) (v := ?_) 21 rfl (.inl ⟨by rfl, ?_⟩) ?_; rotate_left
        · (intro wS hSw; (try dsimp only at hSw); go_simp); all_goals with_reducible rfl
        try go_frame
        refine tks (oi := ⟨_, _, _, _, _, _⟩) (v := ?_) 22 rfl (.inl ⟨by rfl, ?_⟩) ?_; rotate_left
        · (intro wS hSw; (try dsimp only at hSw); go_simp); all_goals with_reducible rfl
        try go_frame
        refine tks (oi := ⟨_, _, _, _, _, _⟩) (v := ?_) 23 rfl (.inl ⟨by rfl, ?_⟩) ?_; rotate_left
        · (intro wS hSw; (try dsimp only at hSw); go_simp); all_goals with_reducible rfl
        try go_frame
        refine tks (oi := ⟨_, _, _, _, _, _⟩) (v := ?_) 24 rfl (.inl ⟨by rfl, ?_⟩) ?_; rotate_left
        · (intro wS hSw; (try dsimp only at hSw); go_simp); all_goals with_reducible rfl
        try go_frame
        refine tks (oi := ⟨_, _, _, _, _, _⟩) (v := ?_) 25 rfl (.inl ⟨by rfl, ?_⟩) ?_; rotate_left
        · (intro wS hSw; (try dsimp only at hSw); go_simp); all_goals with_reducible rfl
        try go_frame
        refine tks (oi := ⟨_, _, _, _, _, _⟩) (v := ?_) 26 rfl (.inl ⟨by rfl, ?_⟩) ?_; rotate_left
        · (intro wS hSw; (try dsimp only at hSw); go_simp); all_goals with_reducible rfl
        try go_frame
        refine wpAnyH_done (by kernel_rfl) ?_ _
        clear hHeld
        have d0 := D0.out
        have d3 := D3.out
        go_wp2_with fail
        all_goals go_ret
        all_goals refine ⟨?_, HB5.out⟩
        all_goals (refine congrArg (fun b => Ending.returned (Value.bool b)) ?_)
        all_goals simp_all
        all_goals first | (cases value <;> rfl) | (cases name <;> rfl) | (cases name <;> cases value <;> rfl) | (intros; first | omega | assumption | simp_all)
    · have hz3 : 9999 < num := by omega
      clear hzz
      go_wp2_with fail
      all_goals go_ret
      all_goals refine ⟨?_, HB.out⟩
      all_goals (refine congrArg (fun b => Ending.returned (Value.bool b)) ?_)
      all_goals simp_all
      all_goals first | (cases value <;> rfl) | (cases name <;> rfl) | (cases name <;> cases value <;> rfl) | (intros; first | omega | assumption | simp_all)
  · have hz3 : num < 1 := by omega
    clear hz
    go_wp2_with fail
    all_goals go_ret
    all_goals refine ⟨?_, HB.out⟩
    all_goals (refine congrArg (fun b => Ending.returned (Value.bool b)) ?_)
    all_goals simp_all
    all_goals first | (cases value <;> rfl) | (cases name <;> rfl) | (cases name <;> cases value <;> rfl) | (intros; first | omega | assumption | simp_all)
set_option maxRecDepth 100000 in
set_option maxHeartbeats 4000000 in
theorem rright_2 (num : Int) (name value : List UInt8) (w : World) (hn : name.length ≤ 1000000000) (hvl : value.length ≤ 1000000000) :
    Calls Tryd.prog 25 #[.agg #[.int .i64 2, .int .i64 num, .string ⟨name.toArray⟩, .string ⟨value.toArray⟩]] w (Ret w (.bool (decide (num = 0 ∧ name = [] ∧ value = [])))) := by
  obtain ⟨v, hv⟩ : ∃ v, Hid (nameL name = v) := ⟨_, rfl⟩
  obtain ⟨n, hc⟩ : ∃ n, Hid (countL value = n) := ⟨_, rfl⟩
  try rw [hv.out]
  try rw [hc.out]
  have hneg : n < 0 → value ≠ [] := fun h e => by rw [← hc.out, e] at h; revert h; decide
  have hnem : v = true → name ≠ [] := fun h e => by rw [← hv.out, e] at h; revert h; decide
  obtain ⟨W1, hW1⟩ : ∃ W1, Hid (W1 = w.alloc (.cells #[.int .i64 2, .int .i64 num, .string ⟨name.toArray⟩, .string ⟨value.toArray⟩] 39)) := ⟨_, rfl⟩
  have hb1 : Below w.heap.size w W1 := by rw [hW1.out]; exact (Below.refl _ w).alloc (Nat.le_refl _) _
  have hz1 : w.heap.size < W1.heap.size := by rw [hW1.out]; simp
  have y : ∀ (j : Nat) (u : Value), (#[.int .i64 2, .int .i64 num, .string ⟨name.toArray⟩, .string ⟨value.toArray⟩] : Array Value)[j]? = some u → W1.cell? ⟨w.heap.size, j, none⟩ = some u := fun j u hu => by rw [hW1.out, World.cell?_alloc_at _ _ _ _ rfl]; exact hu
  have HY := Lib.hid y
  clear y
  go_enter Tryd.func25, Tryd.ntmps25
  go_wp2_with fail
  rw [← hW1.out]
  refine (RCount_q value W1 hvl n hc).mono ?_
  rintro e w2 ⟨rfl, hb2⟩
  have c0 : w2.cell? ⟨w.heap.size, 0, none⟩ = some (.int .i64 2) := (hb2.cell hz1).trans (HY.out 0 _ rfl)
  have c1 : w2.cell? ⟨w.heap.size, 1, none⟩ = some (.int .i64 num) := (hb2.cell hz1).trans (HY.out 1 _ rfl)
  have c2 : w2.cell? ⟨w.heap.size, 2, none⟩ = some (.string ⟨name.toArray⟩) := (hb2.cell hz1).trans (HY.out 2 _ rfl)
  have c3 : w2.cell? ⟨w.heap.size, 3, none⟩ = some (.string ⟨value.toArray⟩) := (hb2.cell hz1).trans (HY.out 3 _ rfl)
  have hz2 : w.heap.size < w2.heap.size := Nat.lt_of_lt_of_le hz1 hb2.size
  have HB := Lib.hid (hb1.trans (hb2.mono (Nat.le_of_lt hz1)))
  have HS : Hid (w2.drew.cell? ⟨w.heap.size, 0, none⟩ = some (.int .i64 2) ∧ w2.drew.cell? ⟨w.heap.size, 2, none⟩ = some (.string ⟨name.toArray⟩)) := ⟨c0, c2⟩
  have HC3 := Lib.hid c3
  clear hb1 hb2
  by_cases h0 : n < 0
  · have h0v := hneg h0
    go_wp2_with fail
    all_goals go_ret
    all_goals refine ⟨?_, HB.out⟩
    all_goals (refine congrArg (fun b => Ending.returned (Value.bool b)) ?_)
    all_goals simp_all
    all_goals first | (cases value <;> rfl) | (cases name <;> rfl) | (cases name <;> cases value <;> rfl) | (intros; first | omega | assumption | simp_all)
  have h0' : 0 ≤ n := by omega
  clear h0 hneg
  by_cases hz : num = 0
  · subst hz
    go_wp2_with fail
    refine wp_region_held_drew (S := fun w' => w'.cell? ⟨w.heap.size, 0, none⟩ = some (.int .i64 2) ∧ w'.cell? ⟨w.heap.size, 2, none⟩ = some (.string ⟨name.toArray⟩)) (by kernel_rfl) HS.out (fun hHeld => ?_)
    refine tks (oi := ⟨_, _, _, _, _, _⟩) (v := ?_) 0 rfl (.inl ⟨by rfl, ?_⟩) ?_; rotate_left
    · (intro wS hSw; (try dsimp only at hSw); go_simp); all_goals with_reducible rfl
    try go_frame
    refine tks (oi := ⟨_, _, _, _, _, _⟩) (v := ?_) 1 rfl (.inl ⟨by rfl, ?_⟩) ?_; rotate_left
    · (intro wS hSw; (try dsimp only at hSw); go_simp); all_goals with_reducible rfl
    try go_frame
    refine tks (oi := ⟨_, _, _, _, _, _⟩) (v := ?_) 2 rfl (.inl ⟨by rfl, ?_⟩) ?_; rotate_left
    · (intro wS hSw; (try dsimp only at hSw); go_simp); all_goals with_reducible rfl
    try go_frame
    refine tks (oi := ⟨_, _, _, _, _, _⟩) (v := ?_) 3 rfl (.inl ⟨by rfl, ?_⟩) ?_; rotate_left
    · (intro wS hSw; (try dsimp only at hSw); go_simp); all_goals with_reducible rfl
    try go_frame
    refine tks (oi := ⟨_, _, _, _, _, _⟩) (v := ?_) 4 rfl (.inl ⟨by rfl, ?_⟩) ?_; rotate_left
    · (intro wS hSw; (try dsimp only at hSw); go_simp); all_goals with_reducible rfl
    try go_frame
    refine tks (oi := ⟨_, _, _, _, _, _⟩) (v := ?_) 5 rfl (.inl ⟨by rfl, ?_⟩) ?_; rotate_left
    · (intro wS hSw; (try dsimp only at hSw); go_simp); all_goals with_reducible rfl
    try go_frame
    refine tks (oi := ⟨_, _, _, _, _, _⟩) (v := ?_) 6 rfl (.inl ⟨by rfl, ?_⟩) ?_; rotate_left
    · (intro wS hSw; (try dsimp only at hSw); go_simp); all_goals with_reducible rfl
    try go_frame
    refine tks (oi := ⟨_, _, _, _, _, _⟩) (v := ?_) 7 rfl (.inl ⟨by rfl, ?_⟩) ?_; rotate_left
    · (intro wS hSw; (try dsimp only at hSw); go_simp); all_goals with_reducible rfl
    try go_frame
    refine tks (oi := ⟨_, _, _, _, _, _⟩) (v := ?_) 8 rfl (.inl ⟨by rfl, ?_⟩) ?_; rotate_left
    · (intro wS hSw; (try dsimp only at hSw); go_simp); all_goals with_reducible rfl
    try go_frame
    refine tks (oi := ⟨_, _, _, _, _, _⟩) (v := ?_) 9 rfl (.inl ⟨by rfl, ?_⟩) ?_; rotate_left
    · (intro wS hSw; (try dsimp only at hSw); go_simp); all_goals with_reducible rfl
    try go_frame
    refine wpAnyH_ready (rs := [10]) (by kernel_rfl) (by simp) ?_
    refine AllReadyH.cons (o := ⟨_, _, _, _, _, _⟩) rfl (fun K hK => ?_) AllReadyH.nil
    go_simp
    refine (RName_q name _ hn v hv).mono ?_
    rintro e5 w5 ⟨rfl, hb5⟩
    have hb5' : Below w2.heap.size w2 w5 := ((Below.refl _ w2).drew).trans hb5
    have HB5 := Lib.hid (HB.out.trans (hb5'.mono (Nat.le_of_lt hz2)))
    have HS5 : Hid (w5.cell? ⟨w.heap.size, 0, none⟩ = some (.int .i64 2) ∧ w5.cell? ⟨w.heap.size, 2, none⟩ = some (.string ⟨name.toArray⟩)) := ⟨(hb5'.cell (p := ⟨w.heap.size, 0, none⟩) hz2).trans HS.out.1, (hb5'.cell (p := ⟨w.heap.size, 2, none⟩) hz2).trans HS.out.2⟩
    have d0 : w5.cell? ⟨w.heap.size, 0, none⟩ = some (.int .i64 2) := HS5.out.1
    have d3 : w5.cell? ⟨w.heap.size, 3, none⟩ = some (.string ⟨value.toArray⟩) := (hb5'.cell (p := ⟨w.heap.size, 3, none⟩) hz2).trans HC3.out
    have D0 := Lib.hid d0
    have D3 := Lib.hid d3
    clear hb5 hb5' d0 d3 c0 c1 c2 c3
    go_wp2_with fail
    refine hK.out _ _ (HS5.out) (fun hHeld => ?_)
    clear hK K
    try go_frame
    cases v with
    | true =>
      have hne := hnem rfl
      clear hnem
      refine tks (oi := ⟨_, _, _, _, _, _⟩) (v := ?_) 11 rfl (.inl ⟨by rfl, ?_⟩) ?_; rotate_left
      · (intro wS hSw; (try dsimp only at hSw); go_simp); all_goals with_reducible rfl
      try go_frame
      refine tks (oi := ⟨_, _, _, _, _, _⟩) (v := ?_) 12 rfl (.inl ⟨by rfl, ?_⟩) ?_; rotate_left
      · (intro wS hSw; (try dsimp only at hSw); go_simp); all_goals with_reducible rfl
      try go_frame
      refine tks (oi := ⟨_, _, _, _, _, _⟩) (v := undef) 13 rfl (.inr ⟨by rfl, rfl⟩) ?_
      try go_frame
      refine tks (oi := ⟨_, _, _, _, _, _⟩) (v := undef) 14 rfl (.inr ⟨by rfl, rfl⟩) ?_
      try go_frame
      refine tks (oi := ⟨_, _, _, _, _, _⟩) (v := undef) 15 rfl (.inr ⟨by rfl, rfl⟩) ?_
      try go_frame
      refine tks (oi := ⟨_, _, _, _, _, _⟩) (v := undef) 16 rfl (.inr ⟨by rfl, rfl⟩) ?_
      try go_frame
      refine tks (oi := ⟨_, _, _, _, _, _⟩) (v := undef) 17 rfl (.inr ⟨by rfl, rfl⟩) ?_
      try go_frame
      refine tks (oi := ⟨_, _, _, _, _, _⟩) (v := undef) 18 rfl (.inr ⟨by rfl, rfl⟩) ?_
      try go_frame
      refine tks (oi := ⟨_, _, _, _, _, _⟩) (v := undef) 19 rfl (.inr ⟨by rfl, rfl⟩) ?_
      try go_frame
      refine tks (oi := ⟨_, _, _, _, _, _⟩) (v := undef) 20 rfl (.inr ⟨by rfl, rfl⟩) ?_
      try go_frame
      refine tks (oi := ⟨_, _, _, _, _, _⟩) (v := undef) 21 rfl (.inr ⟨by rfl, rfl⟩) ?_
      try go_frame
      refine tks (oi := ⟨_, _, _, _, _, _⟩) (v := undef) 22 rfl (.inr ⟨by rfl, rfl⟩) ?_
      try go_frame
      refine tks (oi := ⟨_, _, _, _, _, _⟩) (v := undef) 23 rfl (.inr ⟨by rfl, rfl⟩) ?_
      try go_frame
      refine tks (oi := ⟨_, _, _, _, _, _⟩) (v := undef) 24 rfl (.inr ⟨by rfl, rfl⟩) ?_
      try go_frame
      refine tks (oi := ⟨_, _, _, _, _, _⟩) (v := undef) 25 rfl (.inr ⟨by rfl, rfl⟩) ?_
      try go_frame
      refine tks (oi := ⟨_, _, _, _, _, _⟩) (v := ?_) 26 rfl (.inl ⟨by rfl, ?_⟩) ?_; rotate_left
      · (intro wS hSw; (try dsimp only at hSw); go_simp); all_goals with_reducible rfl
      try go_frame
      refine wpAnyH_done (by kernel_rfl) ?_ _
      clear hHeld
      have d0 := D0.out
      have d3 := D3.out
      go_wp2_with fail
      all_goals go_ret
      all_goals refine ⟨?_, HB5.out⟩
      all_goals (refine congrArg (fun b => Ending.returned (Value.bool b)) ?_)
      all_goals simp_all
      all_goals first | (cases value <;> rfl) | (cases name <;> rfl) | (cases name <;> cases value <;> rfl) | (intros; first | omega | assumption | simp_all)
    | false =>
      clear hnem
      refine tks (oi := ⟨_, _, _, _, _, _⟩) (v := ?_) 11 rfl (.inl ⟨by rfl, ?_⟩) ?_; rotate_left
      · (intro wS hSw; (try dsimp only at hSw); go_simp); all_goals with_reducible rfl
      try go_frame
      refine tks (oi := ⟨_, _, _, _, _, _⟩) (v := ?_) 12 rfl (.inl ⟨by rfl, ?_⟩) ?_; rotate_left
      · (intro wS hSw; (try dsimp only at hSw); go_simp); all_goals with_reducible rfl
      try go_frame
      refine tks (oi := ⟨_, _, _, _, _, _⟩) (v := ?_) 13 rfl (.inl ⟨by rfl, ?_⟩) ?_; rotate_left
      · (intro wS hSw; (try dsimp only at hSw); go_simp); all_goals with_reducible rfl
      try go_frame
      refine tks (oi := ⟨_, _, _, _, _, _⟩) (v := ?_) 14 rfl (.inl ⟨by rfl, ?_⟩) ?_; rotate_left
      · (intro wS hSw; (try dsimp only at hSw); go_simp); all_goals with_reducible rfl
      try go_frame
      refine tks (oi := ⟨_, _, _, _, _, _⟩) (v := ?_) 15 rfl (.inl ⟨by rfl, ?_⟩) ?_; rotate_left
      · (intro wS hSw; (try dsimp only at hSw); go_simp); all_goals with_reducible rfl
      try go_frame
      refine tks (oi := ⟨_, _, _, _, _, _⟩) (v := ?_) 16 rfl (.inl ⟨by rfl, ?_⟩) ?_; rotate_left
      · (intro wS hSw; (try dsimp only at hSw); go_simp); all_goals with_reducible rfl
      try go_frame
      refine tks (oi := ⟨_, _, _, _, _, _⟩) (v := ?_) 17 rfl (.inl ⟨by rfl, ?_⟩) ?_; rotate_left
      · (intro wS hSw; (try dsimp only at hSw); go_simp); all_goals with_reducible rfl
      try go_frame
      refine tks (oi := ⟨_, _, _, _, _, _⟩) (v := ?_) 18 rfl (.inl ⟨by rfl, ?_⟩) ?_; rotate_left
      · (intro wS hSw; (try dsimp only at hSw); go_simp); all_goals with_reducible rfl
      try go_frame
      refine tks (oi := ⟨_, _, _, _, _, _⟩) (v := ?_) 19 rfl (.inl ⟨by rfl, ?_⟩) ?_; rotate_left
      · (intro wS hSw; (try dsimp only at hSw); go_simp); all_goals with_reducible rfl
      try go_frame
      refine tks (oi := ⟨_, _, _, _, _, _⟩) (v := ?_) 20 rfl (.inl ⟨by rfl, ?_⟩) ?_; rotate_left
      · (intro wS hSw; (try dsimp only at hSw); go_simp); all_goals with_reducible rfl
      try go_frame
      refine tks (oi := ⟨_, _, _, _, _, _⟩) (v := ?_) 21 rfl (.inl ⟨by rfl, ?_⟩) ?_; rotate_left
      · (intro wS hSw; (try dsimp only at hSw); go_simp); all_goals with_reducible rfl
      try go_frame
      refine tks (oi := ⟨_, _, _, _, _, _⟩) (v := ?_) 22 rfl (.inl ⟨by rfl, ?_⟩) ?_; rotate_left
      · (intro wS hSw; (try dsimp only at hSw); go_simp); all_goals with_reducible rfl
      try go_frame
      refine tks (oi := ⟨_, _, _, _, _, _⟩) (v := ?_) 23 rfl (.inl ⟨by rfl, ?_⟩) ?_; rotate_left
      · (intro wS hSw; (try dsimp only at hSw); go_simp); all_goals with_reducible rfl
      try go_frame
      refine tks (oi := ⟨_, _, _, _, _, _⟩) (v := ?_) 24 rfl (.inl ⟨by rfl, ?_⟩) ?_; rotate_left
      · (intro wS hSw; (try dsimp only at hSw); go_simp); all_goals with_reducible rfl
      try go_frame
      refine tks (oi := ⟨_, _, _, _, _, _⟩) (v := ?_) 25 rfl (.inl ⟨by rfl, ?_⟩) ?_; rotate_left
      · (intro wS hSw; (try dsimp only at hSw); go_simp); all_goals with_reducible rfl
      try go_frame
      refine tks (oi := ⟨_, _, _, _, _, _⟩) (v := ?_) 26 rfl (.inl ⟨by rfl, ?_⟩) ?_; rotate_left
      · (intro wS hSw; (try dsimp only at hSw); go_simp); all_goals with_reducible rfl
      try go_frame
      refine wpAnyH_done (by kernel_rfl) ?_ _
      clear hHeld
      have d0 := D0.out
      have d3 := D3.out
      go_wp2_with fail
      all_goals go_ret
      all_goals refine ⟨?_, HB5.out⟩
      all_goals (refine congrArg (fun b => Ending.returned (Value.bool b)) ?_)
      all_goals simp_all
      all_goals first | (cases value <;> rfl) | (cases name <;> rfl) | (cases name <;> cases value <;> rfl) | (intros; first | omega | assumption | simp_all)
  · have e0 : (num == 0) = false := by simpa using hz
    have e1 : (num != 0) = true := by simpa using hz
    go_wp2_with fail
    all_goals go_ret
    all_goals refine ⟨?_, HB.out⟩
    all_goals (refine congrArg (fun b => Ending.returned (Value.bool b)) ?_)
    all_goals simp_all
    all_goals first | (cases value <;> rfl) | (cases name <;> rfl) | (cases name <;> cases value <;> rfl) | (intros; first | omega | assumption | simp_all)
set_option maxRecDepth 100000 in
set_option maxHeartbeats 4000000 in
theorem rright_3 (num : Int) (name value : List UInt8) (w : World) (hn : name.length ≤ 1000000000) (hvl : value.length ≤ 1000000000) :
    Calls Tryd.prog 25 #[.agg #[.int .i64 3, .int .i64 num, .string ⟨name.toArray⟩, .string ⟨value.toArray⟩]] w (Ret w (.bool (nameL name && decide (num = 0 ∧ value = [])))) := by
  obtain ⟨v, hv⟩ : ∃ v, Hid (nameL name = v) := ⟨_, rfl⟩
  obtain ⟨n, hc⟩ : ∃ n, Hid (countL value = n) := ⟨_, rfl⟩
  try rw [hv.out]
  try rw [hc.out]
  have hneg : n < 0 → value ≠ [] := fun h e => by rw [← hc.out, e] at h; revert h; decide
  have hnem : v = true → name ≠ [] := fun h e => by rw [← hv.out, e] at h; revert h; decide
  obtain ⟨W1, hW1⟩ : ∃ W1, Hid (W1 = w.alloc (.cells #[.int .i64 3, .int .i64 num, .string ⟨name.toArray⟩, .string ⟨value.toArray⟩] 39)) := ⟨_, rfl⟩
  have hb1 : Below w.heap.size w W1 := by rw [hW1.out]; exact (Below.refl _ w).alloc (Nat.le_refl _) _
  have hz1 : w.heap.size < W1.heap.size := by rw [hW1.out]; simp
  have y : ∀ (j : Nat) (u : Value), (#[.int .i64 3, .int .i64 num, .string ⟨name.toArray⟩, .string ⟨value.toArray⟩] : Array Value)[j]? = some u → W1.cell? ⟨w.heap.size, j, none⟩ = some u := fun j u hu => by rw [hW1.out, World.cell?_alloc_at _ _ _ _ rfl]; exact hu
  have HY := Lib.hid y
  clear y
  go_enter Tryd.func25, Tryd.ntmps25
  go_wp2_with fail
  rw [← hW1.out]
  refine (RCount_q value W1 hvl n hc).mono ?_
  rintro e w2 ⟨rfl, hb2⟩
  have c0 : w2.cell? ⟨w.heap.size, 0, none⟩ = some (.int .i64 3) := (hb2.cell hz1).trans (HY.out 0 _ rfl)
  have c1 : w2.cell? ⟨w.heap.size, 1, none⟩ = some (.int .i64 num) := (hb2.cell hz1).trans (HY.out 1 _ rfl)
  have c2 : w2.cell? ⟨w.heap.size, 2, none⟩ = some (.string ⟨name.toArray⟩) := (hb2.cell hz1).trans (HY.out 2 _ rfl)
  have c3 : w2.cell? ⟨w.heap.size, 3, none⟩ = some (.string ⟨value.toArray⟩) := (hb2.cell hz1).trans (HY.out 3 _ rfl)
  have hz2 : w.heap.size < w2.heap.size := Nat.lt_of_lt_of_le hz1 hb2.size
  have HB := Lib.hid (hb1.trans (hb2.mono (Nat.le_of_lt hz1)))
  have HS : Hid (w2.drew.cell? ⟨w.heap.size, 0, none⟩ = some (.int .i64 3) ∧ w2.drew.cell? ⟨w.heap.size, 2, none⟩ = some (.string ⟨name.toArray⟩)) := ⟨c0, c2⟩
  have HC3 := Lib.hid c3
  clear hb1 hb2
  by_cases h0 : n < 0
  · have h0v := hneg h0
    go_wp2_with fail
    all_goals go_ret
    all_goals refine ⟨?_, HB.out⟩
    all_goals (refine congrArg (fun b => Ending.returned (Value.bool b)) ?_)
    all_goals simp_all
    all_goals first | (cases value <;> rfl) | (cases name <;> rfl) | (cases name <;> cases value <;> rfl) | (intros; first | omega | assumption | simp_all)
  have h0' : 0 ≤ n := by omega
  clear h0 hneg
  by_cases hz : num = 0
  · subst hz
    go_wp2_with fail
    refine wp_region_held_drew (S := fun w' => w'.cell? ⟨w.heap.size, 0, none⟩ = some (.int .i64 3) ∧ w'.cell? ⟨w.heap.size, 2, none⟩ = some (.string ⟨name.toArray⟩)) (by kernel_rfl) HS.out (fun hHeld => ?_)
    refine tks (oi := ⟨_, _, _, _, _, _⟩) (v := ?_) 0 rfl (.inl ⟨by rfl, ?_⟩) ?_; rotate_left
    · (intro wS hSw; (try dsimp only at hSw); go_simp); all_goals with_reducible rfl
    try go_frame
    refine tks (oi := ⟨_, _, _, _, _, _⟩) (v := ?_) 1 rfl (.inl ⟨by rfl, ?_⟩) ?_; rotate_left
    · (intro wS hSw; (try dsimp only at hSw); go_simp); all_goals with_reducible rfl
    try go_frame
    refine tks (oi := ⟨_, _, _, _, _, _⟩) (v := ?_) 2 rfl (.inl ⟨by rfl, ?_⟩) ?_; rotate_left
    · (intro wS hSw; (try dsimp only at hSw); go_simp); all_goals with_reducible rfl
    try go_frame
    refine tks (oi := ⟨_, _, _, _, _, _⟩) (v := ?_) 3 rfl (.inl ⟨by rfl, ?_⟩) ?_; rotate_left
    · (intro wS hSw; (try dsimp only at hSw); go_simp); all_goals with_reducible rfl
    try go_frame
    refine tks (oi := ⟨_, _, _, _, _, _⟩) (v := undef) 4 rfl (.inr ⟨by rfl, rfl⟩) ?_
    try go_frame
    refine tks (oi := ⟨_, _, _, _, _, _⟩) (v := undef) 5 rfl (.inr ⟨by rfl, rfl⟩) ?_
    try go_frame
    refine tks (oi := ⟨_, _, _, _, _, _⟩) (v := undef) 6 rfl (.inr ⟨by rfl, rfl⟩) ?_
    try go_frame
    refine tks (oi := ⟨_, _, _, _, _, _⟩) (v := ?_) 7 rfl (.inl ⟨by rfl, ?_⟩) ?_; rotate_left
    · (intro wS hSw; (try dsimp only at hSw); go_simp); all_goals with_reducible rfl
    try go_frame
    refine tks (oi := ⟨_, _, _, _, _, _⟩) (v := ?_) 8 rfl (.inl ⟨by rfl, ?_⟩) ?_; rotate_left
    · (intro wS hSw; (try dsimp only at hSw); go_simp); all_goals with_reducible rfl
    try go_frame
    refine tks (oi := ⟨_, _, _, _, _, _⟩) (v := ?_) 9 rfl (.inl ⟨by rfl, ?_⟩) ?_; rotate_left
    · (intro wS hSw; (try dsimp only at hSw); go_simp); all_goals with_reducible rfl
    try go_frame
    refine wpAnyH_ready (rs := [10]) (by kernel_rfl) (by simp) ?_
    refine AllReadyH.cons (o := ⟨_, _, _, _, _, _⟩) rfl (fun K hK => ?_) AllReadyH.nil
    go_simp
    refine (RName_q name _ hn v hv).mono ?_
    rintro e5 w5 ⟨rfl, hb5⟩
    have hb5' : Below w2.heap.size w2 w5 := ((Below.refl _ w2).drew).trans hb5
    have HB5 := Lib.hid (HB.out.trans (hb5'.mono (Nat.le_of_lt hz2)))
    have HS5 : Hid (w5.cell? ⟨w.heap.size, 0, none⟩ = some (.int .i64 3) ∧ w5.cell? ⟨w.heap.size, 2, none⟩ = some (.string ⟨name.toArray⟩)) := ⟨(hb5'.cell (p := ⟨w.heap.size, 0, none⟩) hz2).trans HS.out.1, (hb5'.cell (p := ⟨w.heap.size, 2, none⟩) hz2).trans HS.out.2⟩
    have d0 : w5.cell? ⟨w.heap.size, 0, none⟩ = some (.int .i64 3) := HS5.out.1
    have d3 : w5.cell? ⟨w.heap.size, 3, none⟩ = some (.string ⟨value.toArray⟩) := (hb5'.cell (p := ⟨w.heap.size, 3, none⟩) hz2).trans HC3.out
    have D0 := Lib.hid d0
    have D3 := Lib.hid d3
    clear hb5 hb5' d0 d3 c0 c1 c2 c3
    go_wp2_with fail
    refine hK.out _ _ (HS5.out) (fun hHeld => ?_)
    clear hK K
    try go_frame
    cases v with
    | true =>
      clear hnem
      refine tks (oi := ⟨_, _, _, _, _, _⟩) (v := ?_) 11 rfl (.inl ⟨by rfl, ?_⟩) ?_; rotate_left
      · (intro wS hSw; (try dsimp only at hSw); go_simp); all_goals with_reducible rfl
      try go_frame
      refine tks (oi := ⟨_, _, _, _, _, _⟩) (v := ?_) 12 rfl (.inl ⟨by rfl, ?_⟩) ?_; rotate_left
      · (intro wS hSw; (try dsimp only at hSw); go_simp); all_goals with_reducible rfl
      try go_frame
      refine tks (oi := ⟨_, _, _, _, _, _⟩) (v := ?_) 13 rfl (.inl ⟨by rfl, ?_⟩) ?_; rotate_left
      · (intro wS hSw; (try dsimp only at hSw); go_simp); all_goals with_reducible rfl
      try go_frame
      refine tks (oi := ⟨_, _, _, _, _, _⟩) (v := ?_) 14 rfl (.inl ⟨by rfl, ?_⟩) ?_; rotate_left
      · (intro wS hSw; (try dsimp only at hSw); go_simp); all_goals with_reducible rfl
      try go_frame
      refine tks (oi := ⟨_, _, _, _, _, _⟩) (v := ?_) 15 rfl (.inl ⟨by rfl, ?_⟩) ?_; rotate_left
      · (intro wS hSw; (try dsimp only at hSw); go_simp); all_goals with_reducible rfl
      try go_frame
      refine tks (oi := ⟨_, _, _, _, _, _⟩) (v := ?_) 16 rfl (.inl ⟨by rfl, ?_⟩) ?_; rotate_left
      · (intro wS hSw; (try dsimp only at hSw); go_simp); all_goals with_reducible rfl
      try go_frame
      refine tks (oi := ⟨_, _, _, _, _, _⟩) (v := undef) 17 rfl (.inr ⟨by rfl, rfl⟩) ?_
      try go_frame
      refine tks (oi := ⟨_, _, _, _, _, _⟩) (v := undef) 18 rfl (.inr ⟨by rfl, rfl⟩) ?_
      try go_frame
      refine tks (oi := ⟨_, _, _, _, _, _⟩) (v := undef) 19 rfl (.inr ⟨by rfl, rfl⟩) ?_
      try go_frame
      refine tks (oi := ⟨_, _, _, _, _, _⟩) (v := ?_) 20 rfl (.inl ⟨by rfl, ?_⟩) ?_; rotate_left
      · (intro wS hSw; (try dsimp only at hSw); go_simp); all_goals with_reducible rfl
      try go_frame
      refine tks (oi := ⟨_, _, _, _, _, _⟩) (v := ?_) 21 rfl (.inl ⟨by rfl, ?_⟩) ?_; rotate_left
      · (intro wS hSw; (try dsimp only at hSw); go_simp); all_goals with_reducible rfl
      try go_frame
      refine tks (oi := ⟨_, _, _, _, _, _⟩) (v := undef) 22 rfl (.inr ⟨by rfl, rfl⟩) ?_
      try go_frame
      refine tks (oi := ⟨_, _, _, _, _, _⟩) (v := undef) 23 rfl (.inr ⟨by rfl, rfl⟩) ?_
      try go_frame
      refine tks (oi := ⟨_, _, _, _, _, _⟩) (v := undef) 24 rfl (.inr ⟨by rfl, rfl⟩) ?_
      try go_frame
      refine tks (oi := ⟨_, _, _, _, _, _⟩) (v := ?_) 25 rfl (.inl ⟨by rfl, ?_⟩) ?_; rotate_left
      · (intro wS hSw; (try dsimp only at hSw); go_simp); all_goals with_reducible rfl
      try go_frame
      refine tks (oi := ⟨_, _, _, _, _, _⟩) (v := ?_) 26 rfl (.inl ⟨by rfl, ?_⟩) ?_; rotate_left
      · (intro wS hSw; (try dsimp only at hSw); go_simp); all_goals with_reducible rfl
      try go_frame
      refine wpAnyH_done (by kernel_rfl) ?_ _
      clear hHeld
      have d0 := D0.out
      have d3 := D3.out
      go_wp2_with fail
      all_goals go_ret
      all_goals refine ⟨?_, HB5.out⟩
      all_goals (refine congrArg (fun b => Ending.returned (Value.bool b)) ?_)
      all_goals simp_all
      all_goals first | (cases value <;> rfl) | (cases name <;> rfl) | (cases name <;> cases value <;> rfl) | (intros; first | omega | assumption | simp_all)
    | false =>
      clear hnem
      refine tks (oi := ⟨_, _, _, _, _, _⟩) (v := ?_) 11 rfl (.inl ⟨by rfl, ?_⟩) ?_; rotate_left
      · (intro wS hSw; (try dsimp only at hSw); go_simp); all_goals with_reducible rfl
      try go_frame
      refine tks (oi := ⟨_, _, _, _, _, _⟩) (v := ?_) 12 rfl (.inl ⟨by rfl, ?_⟩) ?_; rotate_left
      · (intro wS hSw; (try dsimp only at hSw); go_simp); all_goals with_reducible rfl
      try go_frame
      refine tks (oi := ⟨_, _, _, _, _, _⟩) (v := undef) 13 rfl (.inr ⟨by rfl, rfl⟩) ?_
      try go_frame
      refine tks (oi := ⟨_, _, _, _, _, _⟩) (v := undef) 14 rfl (.inr ⟨by rfl, rfl⟩) ?_
      try go_frame
      refine tks (oi := ⟨_, _, _, _, _, _⟩) (v := undef) 15 rfl (.inr ⟨by rfl, rfl⟩) ?_
      try go_frame
      refine tks (oi := ⟨_, _, _, _, _, _⟩) (v := undef) 16 rfl (.inr ⟨by rfl, rfl⟩) ?_
      try go_frame
      refine tks (oi := ⟨_, _, _, _, _, _⟩) (v := undef) 17 rfl (.inr ⟨by rfl, rfl⟩) ?_
      try go_frame
      refine tks (oi := ⟨_, _, _, _, _, _⟩) (v := undef) 18 rfl (.inr ⟨by rfl, rfl⟩) ?_
      try go_frame
      refine tks (oi := ⟨_, _, _, _, _, _⟩) (v := undef) 19 rfl (.inr ⟨by rfl, rfl⟩) ?_
      try go_frame
      refine tks (oi := ⟨_, _, _, _, _, _⟩) (v := undef) 20 rfl (.inr ⟨by rfl, rfl⟩) ?_
      try go_frame
      refine tks (oi := ⟨_, _, _, _, _, _⟩) (v := undef) 21 rfl (.inr ⟨by rfl, rfl⟩) ?_
      try go_frame
      refine tks (oi := ⟨_, _, _, _, _, _⟩) (v := undef) 22 rfl (.inr ⟨by rfl, rfl⟩) ?_
      try go_frame
      refine tks (oi := ⟨_, _, _, _, _, _⟩) (v := undef) 23 rfl (.inr ⟨by rfl, rfl⟩) ?_
      try go_frame
      refine tks (oi := ⟨_, _, _, _, _, _⟩) (v := undef) 24 rfl (.inr ⟨by rfl, rfl⟩) ?_
      try go_frame
      refine tks (oi := ⟨_, _, _, _, _, _⟩) (v := undef) 25 rfl (.inr ⟨by rfl, rfl⟩) ?_
      try go_frame
      refine tks (oi := ⟨_, _, _, _, _, _⟩) (v := ?_) 26 rfl (.inl ⟨by rfl, ?_⟩) ?_; rotate_left
      · (intro wS hSw; (try dsimp only at hSw); go_simp); all_goals with_reducible rfl
      try go_frame
      refine wpAnyH_done (by kernel_rfl) ?_ _
      clear hHeld
      have d0 := D0.out
      have d3 := D3.out
      go_wp2_with fail
      all_goals go_ret
      all_goals refine ⟨?_, HB5.out⟩
      all_goals (refine congrArg (fun b => Ending.returned (Value.bool b)) ?_)
      all_goals simp_all
      all_goals first | (cases value <;> rfl) | (cases name <;> rfl) | (cases name <;> cases value <;> rfl) | (intros; first | omega | assumption | simp_all)
  · have e0 : (num == 0) = false := by simpa using hz
    have e1 : (num != 0) = true := by simpa using hz
    go_wp2_with fail
    all_goals go_ret
    all_goals refine ⟨?_, HB.out⟩
    all_goals (refine congrArg (fun b => Ending.returned (Value.bool b)) ?_)
    all_goals simp_all
    all_goals first | (cases value <;> rfl) | (cases name <;> rfl) | (cases name <;> cases value <;> rfl) | (intros; first | omega | assumption | simp_all)
set_option maxRecDepth 100000 in
set_option maxHeartbeats 4000000 in
theorem rright_4 (num : Int) (name value : List UInt8) (w : World) (hn : name.length ≤ 1000000000) (hvl : value.length ≤ 1000000000) :
    Calls Tryd.prog 25 #[.agg #[.int .i64 4, .int .i64 num, .string ⟨name.toArray⟩, .string ⟨value.toArray⟩]] w (Ret w (.bool (nameL name && (decide (0 ≤ countL value) && decide (num = 0))))) := by
  obtain ⟨v, hv⟩ : ∃ v, Hid (nameL name = v) := ⟨_, rfl⟩
  obtain ⟨n, hc⟩ : ∃ n, Hid (countL value = n) := ⟨_, rfl⟩
  try rw [hv.out]
  try rw [hc.out]
  have hneg : n < 0 → value ≠ [] := fun h e => by rw [← hc.out, e] at h; revert h; decide
  have hnem : v = true → name ≠ [] := fun h e => by rw [← hv.out, e] at h; revert h; decide
  obtain ⟨W1, hW1⟩ : ∃ W1, Hid (W1 = w.alloc (.cells #[.int .i64 4, .int .i64 num, .string ⟨name.toArray⟩, .string ⟨value.toArray⟩] 39)) := ⟨_, rfl⟩
  have hb1 : Below w.heap.size w W1 := by rw [hW1.out]; exact (Below.refl _ w).alloc (Nat.le_refl _) _
  have hz1 : w.heap.size < W1.heap.size := by rw [hW1.out]; simp
  have y : ∀ (j : Nat) (u : Value), (#[.int .i64 4, .int .i64 num, .string ⟨name.toArray⟩, .string ⟨value.toArray⟩] : Array Value)[j]? = some u → W1.cell? ⟨w.heap.size, j, none⟩ = some u := fun j u hu => by rw [hW1.out, World.cell?_alloc_at _ _ _ _ rfl]; exact hu
  have HY := Lib.hid y
  clear y
  go_enter Tryd.func25, Tryd.ntmps25
  go_wp2_with fail
  rw [← hW1.out]
  refine (RCount_q value W1 hvl n hc).mono ?_
  rintro e w2 ⟨rfl, hb2⟩
  have c0 : w2.cell? ⟨w.heap.size, 0, none⟩ = some (.int .i64 4) := (hb2.cell hz1).trans (HY.out 0 _ rfl)
  have c1 : w2.cell? ⟨w.heap.size, 1, none⟩ = some (.int .i64 num) := (hb2.cell hz1).trans (HY.out 1 _ rfl)
  have c2 : w2.cell? ⟨w.heap.size, 2, none⟩ = some (.string ⟨name.toArray⟩) := (hb2.cell hz1).trans (HY.out 2 _ rfl)
  have c3 : w2.cell? ⟨w.heap.size, 3, none⟩ = some (.string ⟨value.toArray⟩) := (hb2.cell hz1).trans (HY.out 3 _ rfl)
  have hz2 : w.heap.size < w2.heap.size := Nat.lt_of_lt_of_le hz1 hb2.size
  have HB := Lib.hid (hb1.trans (hb2.mono (Nat.le_of_lt hz1)))
  have HS : Hid (w2.drew.cell? ⟨w.heap.size, 0, none⟩ = some (.int .i64 4) ∧ w2.drew.cell? ⟨w.heap.size, 2, none⟩ = some (.string ⟨name.toArray⟩)) := ⟨c0, c2⟩
  have HC3 := Lib.hid c3
  clear hb1 hb2
  by_cases h0 : n < 0
  · have h0v := hneg h0
    go_wp2_with fail
    all_goals go_ret
    all_goals refine ⟨?_, HB.out⟩
    all_goals (refine congrArg (fun b => Ending.returned (Value.bool b)) ?_)
    all_goals simp_all
    all_goals first | (cases value <;> rfl) | (cases name <;> rfl) | (cases name <;> cases value <;> rfl) | (intros; first | omega | assumption | simp_all)
  have h0' : 0 ≤ n := by omega
  clear h0 hneg
  by_cases hz : num = 0
  · subst hz
    go_wp2_with fail
    refine wp_region_held_drew (S := fun w' => w'.cell? ⟨w.heap.size, 0, none⟩ = some (.int .i64 4) ∧ w'.cell? ⟨w.heap.size, 2, none⟩ = some (.string ⟨name.toArray⟩)) (by kernel_rfl) HS.out (fun hHeld => ?_)
    refine tks (oi := ⟨_, _, _, _, _, _⟩) (v := ?_) 0 rfl (.inl ⟨by rfl, ?_⟩) ?_; rotate_left
    · (intro wS hSw; (try dsimp only at hSw); go_simp); all_goals with_reducible rfl
    try go_frame
    refine tks (oi := ⟨_, _, _, _, _, _⟩) (v := ?_) 1 rfl (.inl ⟨by rfl, ?_⟩) ?_; rotate_left
    · (intro wS hSw; (try dsimp only at hSw); go_simp); all_goals with_reducible rfl
    try go_frame
    refine tks (oi := ⟨_, _, _, _, _, _⟩) (v := ?_) 2 rfl (.inl ⟨by rfl, ?_⟩) ?_; rotate_left
    · (intro wS hSw; (try dsimp only at hSw); go_simp); all_goals with_reducible rfl
    try go_frame
    refine tks (oi := ⟨_, _, _, _, _, _⟩) (v := ?_) 3 rfl (.inl ⟨by rfl, ?_⟩) ?_; rotate_left
    · (intro wS hSw; (try dsimp only at hSw); go_simp); all_goals with_reducible rfl
    try go_frame
    refine tks (oi := ⟨_, _, _, _, _, _⟩) (v := ?_) 4 rfl (.inl ⟨by rfl, ?_⟩) ?_; rotate_left
    · (intro wS hSw; (try dsimp only at hSw); go_simp); all_goals with_reducible rfl
    try go_frame
    refine tks (oi := ⟨_, _, _, _, _, _⟩) (v := ?_) 5 rfl (.inl ⟨by rfl, ?_⟩) ?_; rotate_left
    · (intro wS hSw; (try dsimp only at hSw); go_simp); all_goals with_reducible rfl
    try go_frame
    refine tks (oi := ⟨_, _, _, _, _, _⟩) (v := ?_) 6 rfl (.inl ⟨by rfl, ?_⟩) ?_; rotate_left
    · (intro wS hSw; (try dsimp only at hSw); go_simp); all_goals with_reducible rfl
    try go_frame
    refine tks (oi := ⟨_, _, _, _, _, _⟩) (v := ?_) 7 rfl (.inl ⟨by rfl, ?_⟩) ?_; rotate_left
    · (intro wS hSw; (try dsimp only at hSw); go_simp); all_goals with_reducible rfl
    try go_frame
    refine tks (oi := ⟨_, _, _, _, _, _⟩) (v := ?_) 8 rfl (.inl ⟨by rfl, ?_⟩) ?_; rotate_left
    · (intro wS hSw; (try dsimp only at hSw); go_simp); all_goals with_reducible rfl
    try go_frame
    refine tks (oi := ⟨_, _, _, _, _, _⟩) (v := ?_) 9 rfl (.inl ⟨by rfl, ?_⟩) ?_; rotate_left
    · (intro wS hSw; (try dsimp only at hSw); go_simp); all_goals with_reducible rfl
    try go_frame
    refine wpAnyH_ready (rs := [10]) (by kernel_rfl) (by simp) ?_
    refine AllReadyH.cons (o := ⟨_, _, _, _, _, _⟩) rfl (fun K hK => ?_) AllReadyH.nil
    go_simp
    refine (RName_q name _ hn v hv).mono ?_
    rintro e5 w5 ⟨rfl, hb5⟩
    have hb5' : Below w2.heap.size w2 w5 := ((Below.refl _ w2).drew).trans hb5
    have HB5 := Lib.hid (HB.out.trans (hb5'.mono (Nat.le_of_lt hz2)))
    have HS5 : Hid (w5.cell? ⟨w.heap.size, 0, none⟩ = some (.int .i64 4) ∧ w5.cell? ⟨w.heap.size, 2, none⟩ = some (.string ⟨name.toArray⟩)) := ⟨(hb5'.cell (p := ⟨w.heap.size, 0, none⟩) hz2).trans HS.out.1, (hb5'.cell (p := ⟨w.heap.size, 2, none⟩) hz2).trans HS.out.2⟩
    have d0 : w5.cell? ⟨w.heap.size, 0, none⟩ = some (.int .i64 4) := HS5.out.1
    have d3 : w5.cell? ⟨w.heap.size, 3, none⟩ = some (.string ⟨value.toArray⟩) := (hb5'.cell (p := ⟨w.heap.size, 3, none⟩) hz2).trans HC3.out
    have D0 := Lib.hid d0
    have D3 := Lib.hid d3
    clear hb5 hb5' d0 d3 c0 c1 c2 c3
    go_wp2_with fail
    refine hK.out _ _ (HS5.out) (fun hHeld => ?_)
    clear hK K
    try go_frame
    cases v with
    | true =>
      clear hnem
      refine tks (oi := ⟨_, _, _, _, _, _⟩) (v := ?_) 11 rfl (.inl ⟨by rfl, ?_⟩) ?_; rotate_left
      · (intro wS hSw; (try dsimp only at hSw); go_simp); all_goals with_reducible rfl
      try go_frame
      refine tks (oi := ⟨_, _, _, _, _, _⟩) (v := ?_) 12 rfl (.inl ⟨by rfl, ?_⟩) ?_; rotate_left
      · (intro wS hSw; (try dsimp only at hSw); go_simp); all_goals with_reducible rfl
      try go_frame
      refine tks (oi := ⟨_, _, _, _, _, _⟩) (v := ?_) 13 rfl (.inl ⟨by rfl, ?_⟩) ?_; rotate_left
      · (intro wS hSw; (try dsimp only at hSw); go_simp); all_goals with_reducible rfl
      try go_frame
      refine tks (oi := ⟨_, _, _, _, _, _⟩) (v := ?_) 14 rfl (.inl ⟨by rfl, ?_⟩) ?_; rotate_left
      · (intro wS hSw; (try dsimp only at hSw); go_simp); all_goals with_reducible rfl
      try go_frame
      refine tks (oi := ⟨_, _, _, _, _, _⟩) (v := ?_) 15 rfl (.inl ⟨by rfl, ?_⟩) ?_; rotate_left
      · (intro wS hSw; (try dsimp only at hSw); go_simp); all_goals with_reducible rfl
      try go_frame
      refine tks (oi := ⟨_, _, _, _, _, _⟩) (v := ?_) 16 rfl (.inl ⟨by rfl, ?_⟩) ?_; rotate_left
      · (intro wS hSw; (try dsimp only at hSw); go_simp); all_goals with_reducible rfl
      try go_frame
      refine tks (oi := ⟨_, _, _, _, _, _⟩) (v := ?_) 17 rfl (.inl ⟨by rfl, ?_⟩) ?_; rotate_left
      · (intro wS hSw; (try dsimp only at hSw); go_simp); all_goals with_reducible rfl
      try go_frame
      refine tks (oi := ⟨_, _, _, _, _, _⟩) (v := ?_) 18 rfl (.inl ⟨by rfl, ?_⟩) ?_; rotate_left
      · (intro wS hSw; (try dsimp only at hSw); go_simp); all_goals with_reducible rfl
      try go_frame
      refine tks (oi := ⟨_, _, _, _, _, _⟩) (v := ?_) 19 rfl (.inl ⟨by rfl, ?_⟩) ?_; rotate_left
      · (intro wS hSw; (try dsimp only at hSw); go_simp); all_goals with_reducible rfl
      try go_frame
      refine tks (oi := ⟨_, _, _, _, _, _⟩) (v := ?_) 20 rfl (.inl ⟨by rfl, ?_⟩) ?_; rotate_left
      · (intro wS hSw; (try dsimp only at hSw); go_simp); all_goals with_reducible rfl
      try go_frame
      refine tks (oi := ⟨_, _, _, _, _, _⟩) (v := ?_) 21 rfl (.inl ⟨by rfl, ?_⟩) ?_; rotate_left
      · (intro wS hSw; (try dsimp only at hSw); go_simp); all_goals with_reducible rfl
      try go_frame
      refine tks (oi := ⟨_, _, _, _, _, _⟩) (v := undef) 22 rfl (.inr ⟨by rfl, rfl⟩) ?_
      try go_frame
      refine tks (oi := ⟨_, _, _, _, _, _⟩) (v := undef) 23 rfl (.inr ⟨by rfl, rfl⟩) ?_
      try go_frame
      refine tks (oi := ⟨_, _, _, _, _, _⟩) (v := undef) 24 rfl (.inr ⟨by rfl, rfl⟩) ?_
      try go_frame
      refine tks (oi := ⟨_, _, _, _, _, _⟩) (v := ?_) 25 rfl (.inl ⟨by rfl, ?_⟩) ?_; rotate_left
      · (intro wS hSw; (try dsimp only at hSw); go_simp); all_goals with_reducible rfl
      try go_frame
      refine tks (oi := ⟨_, _, _, _, _, _⟩) (v := ?_) 26 rfl (.inl ⟨by rfl, ?_⟩) ?_; rotate_left
      · (intro wS hSw; (try dsimp only at hSw); go_simp); all_goals with_reducible rfl
      try go_frame
      refine wpAnyH_done (by kernel_rfl) ?_ _
      clear hHeld
      have d0 := D0.out
      have d3 := D3.out
      go_wp2_with fail
      all_goals go_ret
      all_goals refine ⟨?_, HB5.out⟩
      all_goals (refine congrArg (fun b => Ending.returned (Value.bool b)) ?_)
      all_goals simp_all
      all_goals first | (cases value <;> rfl) | (cases name <;> rfl) | (cases name <;> cases value <;> rfl) | (intros; first | omega | assumption | simp_all)
    | false =>
      clear hnem
      refine tks (oi := ⟨_, _, _, _, _, _⟩) (v := ?_) 11 rfl (.inl ⟨by rfl, ?_⟩) ?_; rotate_left
      · (intro wS hSw; (try dsimp only at hSw); go_simp); all_goals with_reducible rfl
      try go_frame
      refine tks (oi := ⟨_, _, _, _, _, _⟩) (v := ?_) 12 rfl (.inl ⟨by rfl, ?_⟩) ?_; rotate_left
      · (intro wS hSw; (try dsimp only at hSw); go_simp); all_goals with_reducible rfl
      try go_frame
      refine tks (oi := ⟨_, _, _, _, _, _⟩) (v := undef) 13 rfl (.inr ⟨by rfl, rfl⟩) ?_
      try go_frame
      refine tks (oi := ⟨_, _, _, _, _, _⟩) (v := undef) 14 rfl (.inr ⟨by rfl, rfl⟩) ?_
      try go_frame
      refine tks (oi := ⟨_, _, _, _, _, _⟩) (v := undef) 15 rfl (.inr ⟨by rfl, rfl⟩) ?_
      try go_frame
      refine tks (oi := ⟨_, _, _, _, _, _⟩) (v := undef) 16 rfl (.inr ⟨by rfl, rfl⟩) ?_
      try go_frame
      refine tks (oi := ⟨_, _, _, _, _, _⟩) (v := undef) 17 rfl (.inr ⟨by rfl, rfl⟩) ?_
      try go_frame
      refine tks (oi := ⟨_, _, _, _, _, _⟩) (v := undef) 18 rfl (.inr ⟨by rfl, rfl⟩) ?_
      try go_frame
      refine tks (oi := ⟨_, _, _, _, _, _⟩) (v := undef) 19 rfl (.inr ⟨by rfl, rfl⟩) ?_
      try go_frame
      refine tks (oi := ⟨_, _, _, _, _, _⟩) (v := undef) 20 rfl (.inr ⟨by rfl, rfl⟩) ?_
      try go_frame
      refine tks (oi := ⟨_, _, _, _, _, _⟩) (v := undef) 21 rfl (.inr ⟨by rfl, rfl⟩) ?_
      try go_frame
      refine tks (oi := ⟨_, _, _, _, _, _⟩) (v := undef) 22 rfl (.inr ⟨by rfl, rfl⟩) ?_
      try go_frame
      refine tks (oi := ⟨_, _, _, _, _, _⟩) (v := undef) 23 rfl (.inr ⟨by rfl, rfl⟩) ?_
      try go_frame
      refine tks (oi := ⟨_, _, _, _, _, _⟩) (v := undef) 24 rfl (.inr ⟨by rfl, rfl⟩) ?_
      try go_frame
      refine tks (oi := ⟨_, _, _, _, _, _⟩) (v := undef) 25 rfl (.inr ⟨by rfl, rfl⟩) ?_
      try go_frame
      refine tks (oi := ⟨_, _, _, _, _, _⟩) (v := ?_) 26 rfl (.inl ⟨by rfl, ?_⟩) ?_; rotate_left
      · (intro wS hSw; (try dsimp only at hSw); go_simp); all_goals with_reducible rfl
      try go_frame
      refine wpAnyH_done (by kernel_rfl) ?_ _
      clear hHeld
      have d0 := D0.out
      have d3 := D3.out
      go_wp2_with fail
      all_goals go_ret
      all_goals refine ⟨?_, HB5.out⟩
      all_goals (refine congrArg (fun b => Ending.returned (Value.bool b)) ?_)
      all_goals simp_all
      all_goals first | (cases value <;> rfl) | (cases name <;> rfl) | (cases name <;> cases value <;> rfl) | (intros; first | omega | assumption | simp_all)
  · have e0 : (num == 0) = false := by simpa using hz
    have e1 : (num != 0) = true := by simpa using hz
    go_wp2_with fail
    all_goals go_ret
    all_goals refine ⟨?_, HB.out⟩
    all_goals (refine congrArg (fun b => Ending.returned (Value.bool b)) ?_)
    all_goals simp_all
    all_goals first | (cases value <;> rfl) | (cases name <;> rfl) | (cases name <;> cases value <;> rfl) | (intros; first | omega | assumption | simp_all)
set_option maxRecDepth 100000 in
set_option maxHeartbeats 4000000 in
theorem rright_5 (num : Int) (name value : List UInt8) (w : World) (hn : name.length ≤ 1000000000) (hvl : value.length ≤ 1000000000) :
    Calls Tryd.prog 25 #[.agg #[.int .i64 5, .int .i64 num, .string ⟨name.toArray⟩, .string ⟨value.toArray⟩]] w (Ret w (.bool (decide (0 ≤ countL value) && decide (num = 0 ∧ name = [])))) := by
  obtain ⟨v, hv⟩ : ∃ v, Hid (nameL name = v) := ⟨_, rfl⟩
  obtain ⟨n, hc⟩ : ∃ n, Hid (countL value = n) := ⟨_, rfl⟩
  try rw [hv.out]
  try rw [hc.out]
  have hneg : n < 0 → value ≠ [] := fun h e => by rw [← hc.out, e] at h; revert h; decide
  have hnem : v = true → name ≠ [] := fun h e => by rw [← hv.out, e] at h; revert h; decide
  obtain ⟨W1, hW1⟩ : ∃ W1, Hid (W1 = w.alloc (.cells #[.int .i64 5, .int .i64 num, .string ⟨name.toArray⟩, .string ⟨value.toArray⟩] 39)) := ⟨_, rfl⟩
  have hb1 : Below w.heap.size w W1 := by rw [hW1.out]; exact (Below.refl _ w).alloc (Nat.le_refl _) _
  have hz1 : w.heap.size < W1.heap.size := by rw [hW1.out]; simp
  have y : ∀ (j : Nat) (u : Value), (#[.int .i64 5, .int .i64 num, .string ⟨name.toArray⟩, .string ⟨value.toArray⟩] : Array Value)[j]? = some u → W1.cell? ⟨w.heap.size, j, none⟩ = some u := fun j u hu => by rw [hW1.out, World.cell?_alloc_at _ _ _ _ rfl]; exact hu
  have HY := Lib.hid y
  clear y
  go_enter Tryd.func25, Tryd.ntmps25
  go_wp2_with fail
  rw [← hW1.out]
  refine (RCount_q value W1 hvl n hc).mono ?_
  rintro e w2 ⟨rfl, hb2⟩
  have c0 : w2.cell? ⟨w.heap.size, 0, none⟩ = some (.int .i64 5) := (hb2.cell hz1).trans (HY.out 0 _ rfl)
  have c1 : w2.cell? ⟨w.heap.size, 1, none⟩ = some (.int .i64 num) := (hb2.cell hz1).trans (HY.out 1 _ rfl)
  have c2 : w2.cell? ⟨w.heap.size, 2, none⟩ = some (.string ⟨name.toArray⟩) := (hb2.cell hz1).trans (HY.out 2 _ rfl)
  have c3 : w2.cell? ⟨w.heap.size, 3, none⟩ = some (.string ⟨value.toArray⟩) := (hb2.cell hz1).trans (HY.out 3 _ rfl)
  have hz2 : w.heap.size < w2.heap.size := Nat.lt_of_lt_of_le hz1 hb2.size
  have HB := Lib.hid (hb1.trans (hb2.mono (Nat.le_of_lt hz1)))
  have HS : Hid (w2.drew.cell? ⟨w.heap.size, 0, none⟩ = some (.int .i64 5) ∧ w2.drew.cell? ⟨w.heap.size, 2, none⟩ = some (.string ⟨name.toArray⟩)) := ⟨c0, c2⟩
  have HC3 := Lib.hid c3
  clear hb1 hb2
  by_cases h0 : n < 0
  · have h0v := hneg h0
    go_wp2_with fail
    all_goals go_ret
    all_goals refine ⟨?_, HB.out⟩
    all_goals (refine congrArg (fun b => Ending.returned (Value.bool b)) ?_)
    all_goals simp_all
    all_goals first | (cases value <;> rfl) | (cases name <;> rfl) | (cases name <;> cases value <;> rfl) | (intros; first | omega | assumption | simp_all)
  have h0' : 0 ≤ n := by omega
  clear h0 hneg
  by_cases hz : num = 0
  · subst hz
    go_wp2_with fail
    refine wp_region_held_drew (S := fun w' => w'.cell? ⟨w.heap.size, 0, none⟩ = some (.int .i64 5) ∧ w'.cell? ⟨w.heap.size, 2, none⟩ = some (.string ⟨name.toArray⟩)) (by kernel_rfl) HS.out (fun hHeld => ?_)
    refine tks (oi := ⟨_, _, _, _, _, _⟩) (v := ?_) 0 rfl (.inl ⟨by rfl, ?_⟩) ?_; rotate_left
    · (intro wS hSw; (try dsimp only at hSw); go_simp); all_goals with_reducible rfl
    try go_frame
    refine tks (oi := ⟨_, _, _, _, _, _⟩) (v := ?_) 1 rfl (.inl ⟨by rfl, ?_⟩) ?_; rotate_left
    · (intro wS hSw; (try dsimp only at hSw); go_simp); all_goals with_reducible rfl
    try go_frame
    refine tks (oi := ⟨_, _, _, _, _, _⟩) (v := ?_) 2 rfl (.inl ⟨by rfl, ?_⟩) ?_; rotate_left
    · (intro wS hSw; (try dsimp only at hSw); go_simp); all_goals with_reducible rfl
    try go_frame
    refine tks (oi := ⟨_, _, _, _, _, _⟩) (v := ?_) 3 rfl (.inl ⟨by rfl, ?_⟩) ?_; rotate_left
    · (intro wS hSw; (try dsimp only at hSw); go_simp); all_goals with_reducible rfl
    try go_frame
    refine tks (oi := ⟨_, _, _, _, _, _⟩) (v := ?_) 4 rfl (.inl ⟨by rfl, ?_⟩) ?_; rotate_left
    · (intro wS hSw; (try dsimp only at hSw); go_simp); all_goals with_reducible rfl
    try go_frame
    refine tks (oi := ⟨_, _, _, _, _, _⟩) (v := ?_) 5 rfl (.inl ⟨by rfl, ?_⟩) ?_; rotate_left
    · (intro wS hSw; (try dsimp only at hSw); go_simp); all_goals with_reducible rfl
    try go_frame
    refine tks (oi := ⟨_, _, _, _, _, _⟩) (v := ?_) 6 rfl (.inl ⟨by rfl, ?_⟩) ?_; rotate_left
    · (intro wS hSw; (try dsimp only at hSw); go_simp); all_goals with_reducible rfl
    try go_frame
    refine tks (oi := ⟨_, _, _, _, _, _⟩) (v := ?_) 7 rfl (.inl ⟨by rfl, ?_⟩) ?_; rotate_left
    · (intro wS hSw; (try dsimp only at hSw); go_simp); all_goals with_reducible rfl
    try go_frame
    refine tks (oi := ⟨_, _, _, _, _, _⟩) (v := ?_) 8 rfl (.inl ⟨by rfl, ?_⟩) ?_; rotate_left
    · (intro wS hSw; (try dsimp only at hSw); go_simp); all_goals with_reducible rfl
    try go_frame
    refine tks (oi := ⟨_, _, _, _, _, _⟩) (v := ?_) 9 rfl (.inl ⟨by rfl, ?_⟩) ?_; rotate_left
    · (intro wS hSw; (try dsimp only at hSw); go_simp); all_goals with_reducible rfl
    try go_frame
    refine wpAnyH_ready (rs := [10]) (by kernel_rfl) (by simp) ?_
    refine AllReadyH.cons (o := ⟨_, _, _, _, _, _⟩) rfl (fun K hK => ?_) AllReadyH.nil
    go_simp
    refine (RName_q name _ hn v hv).mono ?_
    rintro e5 w5 ⟨rfl, hb5⟩
    have hb5' : Below w2.heap.size w2 w5 := ((Below.refl _ w2).drew).trans hb5
    have HB5 := Lib.hid (HB.out.trans (hb5'.mono (Nat.le_of_lt hz2)))
    have HS5 : Hid (w5.cell? ⟨w.heap.size, 0, none⟩ = some (.int .i64 5) ∧ w5.cell? ⟨w.heap.size, 2, none⟩ = some (.string ⟨name.toArray⟩)) := ⟨(hb5'.cell (p := ⟨w.heap.size, 0, none⟩) hz2).trans HS.out.1, (hb5'.cell (p := ⟨w.heap.size, 2, none⟩) hz2).trans HS.out.2⟩
    have d0 : w5.cell? ⟨w.heap.size, 0, none⟩ = some (.int .i64 5) := HS5.out.1
    have d3 : w5.cell? ⟨w.heap.size, 3, none⟩ = some (.string ⟨value.toArray⟩) := (hb5'.cell (p := ⟨w.heap.size, 3, none⟩) hz2).trans HC3.out
    have D0 := Lib.hid d0
    have D3 := Lib.hid d3
    clear hb5 hb5' d0 d3 c0 c1 c2 c3
    go_wp2_with fail
    refine hK.out _ _ (HS5.out) (fun hHeld => ?_)
    clear hK K
    try go_frame
    cases v with
    | true =>
      have hne := hnem rfl
      clear hnem
      refine tks (oi := ⟨_, _, _, _, _, _⟩) (v := ?_) 11 rfl (.inl ⟨by rfl, ?_⟩) ?_; rotate_left
      · (intro wS hSw; (try dsimp only at hSw); go_simp); all_goals with_reducible rfl
      try go_frame
      refine tks (oi := ⟨_, _, _, _, _, _⟩) (v := ?_) 12 rfl (.inl ⟨by rfl, ?_⟩) ?_; rotate_left
      · (intro wS hSw; (try dsimp only at hSw); go_simp); all_goals with_reducible rfl
      try go_frame
      refine tks (oi := ⟨_, _, _, _, _, _⟩) (v := undef) 13 rfl (.inr ⟨by rfl, rfl⟩) ?_
      try go_frame
      refine tks (oi := ⟨_, _, _, _, _, _⟩) (v := undef) 14 rfl (.inr ⟨by rfl, rfl⟩) ?_
      try go_frame
      refine tks (oi := ⟨_, _, _, _, _, _⟩) (v := undef) 15 rfl (.inr ⟨by rfl, rfl⟩) ?_
      try go_frame
      refine tks (oi := ⟨_, _, _, _, _, _⟩) (v := undef) 16 rfl (.inr ⟨by rfl, rfl⟩) ?_
      try go_frame
      refine tks (oi := ⟨_, _, _, _, _, _⟩) (v := undef) 17 rfl (.inr ⟨by rfl, rfl⟩) ?_
      try go_frame
      refine tks (oi := ⟨_, _, _, _, _, _⟩) (v := undef) 18 rfl (.inr ⟨by rfl, rfl⟩) ?_
      try go_frame
      refine tks (oi := ⟨_, _, _, _, _, _⟩) (v := undef) 19 rfl (.inr ⟨by rfl, rfl⟩) ?_
      try go_frame
      refine tks (oi := ⟨_, _, _, _, _, _⟩) (v := undef) 20 rfl (.inr ⟨by rfl, rfl⟩) ?_
      try go_frame
      refine tks (oi := ⟨_, _, _, _, _, _⟩) (v := undef) 21 rfl (.inr ⟨by rfl, rfl⟩) ?_
      try go_frame
      refine tks (oi := ⟨_, _, _, _, _, _⟩) (v := undef) 22 rfl (.inr ⟨by rfl, rfl⟩) ?_
      try go_frame
      refine tks (oi := ⟨_, _, _, _, _, _⟩) (v := undef) 23 rfl (.inr ⟨by rfl, rfl⟩) ?_
      try go_frame
      refine tks (oi := ⟨_, _, _, _, _, _⟩) (v := undef) 24 rfl (.inr ⟨by rfl, rfl⟩) ?_
      try go_frame
      refine tks (oi := ⟨_, _, _, _, _, _⟩) (v := undef) 25 rfl (.inr ⟨by rfl, rfl⟩) ?_
      try go_frame
      refine tks (oi := ⟨_, _, _, _, _, _⟩) (v := ?_) 26 rfl (.inl ⟨by rfl, ?_⟩) ?_; rotate_left
      · (intro wS hSw; (try dsimp only at hSw); go_simp); all_goals with_reducible rfl
      try go_frame
      refine wpAnyH_done (by kernel_rfl) ?_ _
      clear hHeld
      have d0 := D0.out
      have d3 := D3.out
      go_wp2_with fail
      all_goals go_ret
      all_goals refine ⟨?_, HB5.out⟩
      all_goals (refine congrArg (fun b => Ending.returned (Value.bool b)) ?_)
      all_goals simp_all
      all_goals first | (cases value <;> rfl) | (cases name <;> rfl) | (cases name <;> cases value <;> rfl) | (intros; first | omega | assumption | simp_all)
    | false =>
      clear hnem
      refine tks (oi := ⟨_, _, _, _, _, _⟩) (v := ?_) 11 rfl (.inl ⟨by rfl, ?_⟩) ?_; rotate_left
      · (intro wS hSw; (try dsimp only at hSw); go_simp); all_goals with_reducible rfl
      try go_frame
      refine tks (oi := ⟨_, _, _, _, _, _⟩) (v := ?_) 12 rfl (.inl ⟨by rfl, ?_⟩) ?_; rotate_left
      · (intro wS hSw; (try dsimp only at hSw); go_simp); all_goals with_reducible rfl
      try go_frame
      refine tks (oi := ⟨_, _, _, _, _, _⟩) (v := ?_) 13 rfl (.inl ⟨by rfl, ?_⟩) ?_; rotate_left
      · (intro wS hSw; (try dsimp only at hSw); go_simp); all_goals with_reducible rfl
      try go_frame
      refine tks (oi := ⟨_, _, _, _, _, _⟩) (v := ?_) 14 rfl (.inl ⟨by rfl, ?_⟩) ?_; rotate_left
      · (intro wS hSw; (try dsimp only at hSw); go_simp); all_goals with_reducible rfl
      try go_frame
      refine tks (oi := ⟨_, _, _, _, _, _⟩) (v := ?_) 15 rfl (.inl ⟨by rfl, ?_⟩) ?_; rotate_left
      · (intro wS hSw; (try dsimp only at hSw); go_simp); all_goals with_reducible rfl
      try go_frame
      refine tks (oi := ⟨_, _, _, _, _, _⟩) (v := ?_) 16 rfl (.inl ⟨by rfl, ?_⟩) ?_; rotate_left
      · (intro wS hSw; (try dsimp only at hSw); go_simp); all_goals with_reducible rfl
      try go_frame
      refine tks (oi := ⟨_, _, _, _, _, _⟩) (v := ?_) 17 rfl (.inl ⟨by rfl, ?_⟩) ?_; rotate_left
      · (intro wS hSw; (try dsimp only at hSw); go_simp); all_goals with_reducible rfl
      try go_frame
      refine tks (oi := ⟨_, _, _, _, _, _⟩) (v := ?_) 18 rfl (.inl ⟨by rfl, ?_⟩) ?_; rotate_left
      · (intro wS hSw; (try dsimp only at hSw); go_simp); all_goals with_reducible rfl
      try go_frame
      refine tks (oi := ⟨_, _, _, _, _, _⟩) (v := ?_) 19 rfl (.inl ⟨by rfl, ?_⟩) ?_; rotate_left
      · (intro wS hSw; (try dsimp only at hSw); go_simp); all_goals with_reducible rfl
      try go_frame
      refine tks (oi := ⟨_, _, _, _, _, _⟩) (v := ?_) 20 rfl (.inl ⟨by rfl, ?_⟩) ?_; rotate_left
      · (intro wS hSw; (try dsimp only at hSw); go_simp); all_goals with_reducible rfl
      try go_frame
      refine tks (oi := ⟨_, _, _, _, _, _⟩) (v := ?_) 21 rfl (.inl ⟨by rfl, ?_⟩) ?_; rotate_left
      · (intro wS hSw; (try dsimp only at hSw); go_simp); all_goals with_reducible rfl
      try go_frame
      refine tks (oi := ⟨_, _, _, _, _, _⟩) (v := ?_) 22 rfl (.inl ⟨by rfl, ?_⟩) ?_; rotate_left
      · (intro wS hSw; (try dsimp only at hSw); go_simp); all_goals with_reducible rfl
      try go_frame
      refine tks (oi := ⟨_, _, _, _, _, _⟩) (v := ?_) 23 rfl (.inl ⟨by rfl, ?_⟩) ?_; rotate_left
      · (intro wS hSw; (try dsimp only at hSw); go_simp); all_goals with_reducible rfl
      try go_frame
      refine tks (oi := ⟨_, _, _, _, _, _⟩) (v := ?_) 24 rfl (.inl ⟨by rfl, ?_⟩) ?_; rotate_left
      · (intro wS hSw; (try dsimp only at hSw); go_simp); all_goals with_reducible rfl
      try go_frame
      refine tks (oi := ⟨_, _, _, _, _, _⟩) (v := ?_) 25 rfl (.inl ⟨by rfl, ?_⟩) ?_; rotate_left
      · (intro wS hSw; (try dsimp only at hSw); go_simp); all_goals with_reducible rfl
      try go_frame
      refine tks (oi := ⟨_, _, _, _, _, _⟩) (v := ?_) 26 rfl (.inl ⟨by rfl, ?_⟩) ?_; rotate_left
      · (intro wS hSw; (try dsimp only at hSw); go_simp); all_goals with_reducible rfl
      try go_frame
      refine wpAnyH_done (by kernel_rfl) ?_ _
      clear hHeld
      have d0 := D0.out
      have d3 := D3.out
      go_wp2_with fail
      all_goals go_ret
      all_goals refine ⟨?_, HB5.out⟩
      all_goals (refine congrArg (fun b => Ending.returned (Value.bool b)) ?_)
      all_goals simp_all
      all_goals first | (cases value <;> rfl) | (cases name <;> rfl) | (cases name <;> cases value <;> rfl) | (intros; first | omega | assumption | simp_all)
  · have e0 : (num == 0) = false := by simpa using hz
    have e1 : (num != 0) = true := by simpa using hz
    go_wp2_with fail
    all_goals go_ret
    all_goals refine ⟨?_, HB.out⟩
    all_goals (refine congrArg (fun b => Ending.returned (Value.bool b)) ?_)
    all_goals simp_all
    all_goals first | (cases value <;> rfl) | (cases name <;> rfl) | (cases name <;> cases value <;> rfl) | (intros; first | omega | assumption | simp_all)
set_option maxRecDepth 100000 in
set_option maxHeartbeats 4000000 in
theorem rright_no (k num : Int) (name value : List UInt8) (w : World) (h : k < 1 ∨ 5 < k) :
    Calls Tryd.prog 25 #[.agg #[.int .i64 k, .int .i64 num, .string ⟨name.toArray⟩, .string ⟨value.toArray⟩]] w (Ret w (.bool false)) := by
  rcases h with h | h
  · go_enter Tryd.func25, Tryd.ntmps25
    go_wp2_with fail
    go_ret
    exact ⟨rfl, (Below.refl _ w).alloc (Nat.le_refl _) _⟩
  · have h1 : 1 ≤ k := by omega
    go_enter Tryd.func25, Tryd.ntmps25
    go_wp2_with fail
    go_ret
    exact ⟨rfl, (Below.refl _ w).alloc (Nat.le_refl _) _⟩
theorem rright_any (p : PredD) (w : World) (hp : SmallPred p) (v : Bool) (hv : Hid (predB p = v)) : Calls Tryd.prog 25 #[.agg (predC p)] w (Ret w (.bool v)) := by
  rw [← hv.out]
  obtain ⟨k, n, name, value⟩ := p
  obtain ⟨hn, hvl⟩ := hp
  unfold predB predC
  simp only
  by_cases h1 : k = 1
  · subst h1; rw [if_pos rfl]; exact rright_1 n name value w hn hvl
  rw [if_neg h1]
  by_cases h2 : k = 2
  · subst h2; rw [if_pos rfl]; exact rright_2 n name value w hn hvl
  rw [if_neg h2]
  by_cases h3 : k = 3
  · subst h3; rw [if_pos rfl]; exact rright_3 n name value w hn hvl
  rw [if_neg h3]
  by_cases h4 : k = 4
  · subst h4; rw [if_pos rfl]; exact rright_4 n name value w hn hvl
  rw [if_neg h4]
  by_cases h5 : k = 5
  · subst h5; rw [if_pos rfl]; exact rright_5 n name value w hn hvl
  rw [if_neg h5]
  exact rright_no k n name value w (by omega)
end Go.Proofs.YtpfhdklbhhpbcaaDoor

/-
  The walk of the document's Right.
-/
namespace Go.Proofs.YtpfhdklbhhpbcaaDoor
open Go.RowKit



set_option maxRecDepth 100000 in
set_option maxHeartbeats 8000000 in
theorem RRight_any (l : List StepD) (A : Option Addr) (c : Nat) (w : World) (hA : StepsAt w w.heap.size A l) (hs : SmallSteps l) (R : Bool) (hR : Hid (rightL l = R)) :
    Calls Tryd.prog 13 #[.slice A l.length c] w (Ret w (.bool R)) := by
  have HA := Lib.hid hA
  have HS := Lib.hid hs
  obtain ⟨Q, hQ⟩ : ∃ Q, Hid (l.all stepB = Q) := ⟨_, rfl⟩
  have hRQ := hR.out
  unfold rightL at hRQ
  rw [hQ.out] at hRQ
  have HRQ := Lib.hid hRQ
  have hl := hs.1
  clear hA hs hRQ hR
  go_enter Tryd.func13, Tryd.ntmps13
  go_wp2_with fail
  go_loopw [3] (fun i wr => ∃ (n : Nat), n ≤ l.length ∧ i = .int .i64 (n : Int) ∧ Hid ((l.drop n).all stepB = Q) ∧ Hid (Below w.heap.size w wr)) (fun i _ => l.length - (intOf i).toNat)
  case atStart => exact ⟨0, Nat.zero_le _, by go_num, hQ.out, Below.refl _ _⟩
  case round =>
    obtain ⟨n, hnl, rfl, hin, hbelH⟩ := hrel
    have j0 : (0 : Int) ≤ (n : Int) := by omega
    by_cases hlt : n < l.length
    · obtain ⟨ad, rfl, _⟩ := HA.out (by omega)
      obtain ⟨s, hy⟩ : ∃ s, Hid (l[n]? = some s) := ⟨l[n], List.getElem?_eq_getElem _⟩
      obtain ⟨hb, A', c', hpa, hpc, hs0, hs1, hs2, hs3⟩ := HA.out.item hy.out
      obtain ⟨hsn, hsp, hsm⟩ := HS.out.2 s (List.mem_of_getElem? hy.out)
      have HSM := Lib.hid hsm
      have HPA := Lib.hid hpa
      have hbel := hbelH.out
      have hin' := hin.out
      rw [drop_cons hy.out, List.all_cons, stepB_head] at hin'
      have j1 : (n : Int) < l.length := by omega
      have c0 : wr.cell? (ad.add (n * 4)) = some (.int .i64 s.axis) := (hbel.cell (by rw [block_of_add]; exact hb)).trans hs0
      have c1 : wr.cell? ⟨(ad.add (n * 4)).block, (ad.add (n * 4)).off + 1, none⟩ = some (.int .i64 s.test) := (hbel.cell (by show (ad.add _).block < _; rw [block_of_add]; exact hb)).trans hs1
      have c2 : wr.cell? ⟨(ad.add (n * 4)).block, (ad.add (n * 4)).off + 2, none⟩ = some (.string ⟨s.name.toArray⟩) := (hbel.cell (by show (ad.add _).block < _; rw [block_of_add]; exact hb)).trans hs2
      have c3 : wr.cell? ⟨(ad.add (n * 4)).block, (ad.add (n * 4)).off + 3, none⟩ = some (.slice A' s.preds.length c') := (hbel.cell (by show (ad.add _).block < _; rw [block_of_add]; exact hb)).trans hs3
      clear hs0 hs1 hs2 hs3 hpa hsm hin hbel
      obtain ⟨W1, hW1⟩ : ∃ W1, Hid (W1 = wr.alloc (.cells #[.int .i64 s.axis, .int .i64 s.test, .string ⟨s.name.toArray⟩, .slice A' s.preds.length c'] 37)) := ⟨_, rfl⟩
      have hb1 : Below wr.heap.size wr W1 := by rw [hW1.out]; exact (Below.refl _ wr).alloc (Nat.le_refl _) _
      have hz1 : wr.heap.size < W1.heap.size := by rw [hW1.out]; simp
      have HB1 : Hid (Below w.heap.size w W1) := hbelH.out.trans (hb1.mono hbelH.out.size)
      have y : ∀ (j : Nat) (u : Value), (#[.int .i64 s.axis, .int .i64 s.test, .string ⟨s.name.toArray⟩, .slice A' s.preds.length c'] : Array Value)[j]? = some u → W1.cell? ⟨wr.heap.size, j, none⟩ = some u := fun j u hu => by rw [hW1.out, World.cell?_alloc_at _ _ _ _ rfl]; exact hu
      have HY := Lib.hid y
      clear y
      by_cases h0 : (1 ≤ s.axis ∧ s.axis ≤ 8) ∧ (1 ≤ s.test ∧ s.test ≤ 4) ∧ s.preds.length ≤ 5
      · obtain ⟨⟨a1, a2⟩, ⟨a3, a4⟩, a5⟩ := h0
        have a5' : (s.preds.length : Int) ≤ 5 := by omega
        have hok : headB s = nameB s := by unfold headB; simp [a1, a2, a3, a4, a5]
        by_cases ht : s.test = 1
        · have t1 : (s.test == 1) = true := by simpa using ht
          have t2 : (s.test != 1) = false := by simpa using ht
          obtain ⟨v, hv⟩ : ∃ v, Hid (nameL s.name = v) := ⟨_, rfl⟩
          have hnm : nameB s = v := by unfold nameB; rw [if_pos ht]; exact hv.out
          rw [hok, hnm] at hin'
          clear ht hok hnm
          cases v with
          | false =>
            have HQ : Hid (Q = false) := by show _ = _; rw [← hin']; rfl
            have HR : Hid (R = false) := by show _ = _; rw [← HRQ.out, HQ.out]; rfl
            clear hin'
            go_wp2_with fail
            rw [← hW1.out]
            refine (RName_q s.name W1 hsn false hv).mono ?_
            rintro e w2 ⟨rfl, hb2⟩
            have b0 : w2.cell? ⟨wr.heap.size, 0, none⟩ = some (.int .i64 s.axis) := (hb2.cell hz1).trans (HY.out 0 _ rfl)
            have b1 : w2.cell? ⟨wr.heap.size, 1, none⟩ = some (.int .i64 s.test) := (hb2.cell hz1).trans (HY.out 1 _ rfl)
            have b2 : w2.cell? ⟨wr.heap.size, 2, none⟩ = some (.string ⟨s.name.toArray⟩) := (hb2.cell hz1).trans (HY.out 2 _ rfl)
            have b3 : w2.cell? ⟨wr.heap.size, 3, none⟩ = some (.slice A' s.preds.length c') := (hb2.cell hz1).trans (HY.out 3 _ rfl)
            have HB2 : Hid (Below w.heap.size w w2) := HB1.out.trans (hb2.mono HB1.out.size)
            have hz2 : wr.heap.size < w2.heap.size := Nat.lt_of_lt_of_le hz1 hb2.size
            have HB3 : Hid (w2.cell? ⟨wr.heap.size, 3, none⟩ = some (.slice A' s.preds.length c')) := b3
            clear hb2 hb1 c0 c1 c2 c3
            go_wp2_with fail
            go_ret
            exact ⟨by rw [HR.out]; rfl, HB2.out⟩
          | true =>
            obtain ⟨Q2, hQ2⟩ : ∃ Q2, Hid (s.preds.all predB = Q2) := ⟨_, rfl⟩
            rw [Bool.true_and, hQ2.out] at hin'
            go_wp2_with fail
            rw [← hW1.out]
            refine (RName_q s.name W1 hsn true hv).mono ?_
            rintro e w2 ⟨rfl, hb2⟩
            have b0 : w2.cell? ⟨wr.heap.size, 0, none⟩ = some (.int .i64 s.axis) := (hb2.cell hz1).trans (HY.out 0 _ rfl)
            have b1 : w2.cell? ⟨wr.heap.size, 1, none⟩ = some (.int .i64 s.test) := (hb2.cell hz1).trans (HY.out 1 _ rfl)
            have b2 : w2.cell? ⟨wr.heap.size, 2, none⟩ = some (.string ⟨s.name.toArray⟩) := (hb2.cell hz1).trans (HY.out 2 _ rfl)
            have b3 : w2.cell? ⟨wr.heap.size, 3, none⟩ = some (.slice A' s.preds.length c') := (hb2.cell hz1).trans (HY.out 3 _ rfl)
            have HB2 : Hid (Below w.heap.size w w2) := HB1.out.trans (hb2.mono HB1.out.size)
            have hz2 : wr.heap.size < w2.heap.size := Nat.lt_of_lt_of_le hz1 hb2.size
            have HB3 : Hid (w2.cell? ⟨wr.heap.size, 3, none⟩ = some (.slice A' s.preds.length c')) := b3
            clear hb2 hb1 c0 c1 c2 c3
            go_wp2_with fail
            clear b0 b1 b2 b3
            obtain ⟨q, hq⟩ : ∃ q, Hid (wr.heap.size = q) := ⟨_, rfl⟩
            have H3 : Hid (w2.cell? ⟨q, 3, none⟩ = some (.slice A' s.preds.length c')) := by show _ = _; rw [← hq.out]; exact HB3.out
            rw [hq.out]
            have HZ : q < w2.heap.size := by rw [← hq.out]; exact hz2
            go_loopw [5] (fun i wq => ∃ (m : Nat), m ≤ s.preds.length ∧ i = .int .i64 (m : Int) ∧ Hid ((s.preds.drop m).all predB = Q2) ∧ Hid (Below w2.heap.size w2 wq)) (fun i _ => s.preds.length - (intOf i).toNat)
            case atStart => exact ⟨0, Nat.zero_le _, by go_num, hQ2.out, Below.refl _ _⟩
            case round =>
              rename_i wq0 _
              obtain ⟨m, hml, rfl, hin2, hbq0⟩ := hrel
              have hbq : Hid (Below w.heap.size w wr) := HB2.out.trans (hbq0.out.mono HB2.out.size)
              have hc3 : wr.cell? ⟨q, 3, none⟩ = some (.slice A' s.preds.length c') := (hbq0.out.cell (p := ⟨q, 3, none⟩) HZ).trans H3.out
              have m0 : (0 : Int) ≤ (m : Int) := by omega
              by_cases hmt : m < s.preds.length
              · obtain ⟨pd, rfl, _⟩ := HPA.out (by omega)
                obtain ⟨x, hx⟩ : ∃ x, Hid (s.preds[m]? = some x) := ⟨s.preds[m], List.getElem?_eq_getElem _⟩
                obtain ⟨pd', he', hpb, hpc'⟩ := HPA.out (by omega)
                injection he' with he'
                subst he'
                obtain ⟨p0, p1, p2, p3⟩ := hpc' m x hx.out
                have q0 := (hbq.out.cell (p := pd.add (m * 4)) (by rw [block_of_add]; exact hpb)).trans p0
                have q1 := (hbq.out.cell (p := ⟨(pd.add (m * 4)).block, (pd.add (m * 4)).off + 1, none⟩) (by show (pd.add _).block < _; rw [block_of_add]; exact hpb)).trans p1
                have q2 := (hbq.out.cell (p := ⟨(pd.add (m * 4)).block, (pd.add (m * 4)).off + 2, none⟩) (by show (pd.add _).block < _; rw [block_of_add]; exact hpb)).trans p2
                have q3 := (hbq.out.cell (p := ⟨(pd.add (m * 4)).block, (pd.add (m * 4)).off + 3, none⟩) (by show (pd.add _).block < _; rw [block_of_add]; exact hpb)).trans p3
                have m1 : (m : Int) < s.preds.length := by omega
                obtain ⟨v, hv⟩ : ∃ v, Hid (predB x = v) := ⟨_, rfl⟩
                have hin3 := hin2.out
                rw [drop_cons hx.out, List.all_cons, hv.out] at hin3
                clear p0 p1 p2 p3 hpc' hin2
                go_wp2_with fail
                refine (rright_any x _ (HSM.out x (List.mem_of_getElem? hx.out)) v hv).mono ?_
                rintro e w8 ⟨rfl, hb8⟩
                have hb9 : Hid (Below w.heap.size w w8) := hbq.out.trans (hb8.mono hbq.out.size)
                have hb10 : Hid (Below w2.heap.size w2 w8) := hbq0.out.trans (hb8.mono hbq0.out.size)
                clear q0 q1 q2 q3 hb8 hc3
                cases v with
                | false =>
                  have HR : Hid (R = false) := by
                    show _ = _
                    rw [← HRQ.out, ← hin', ← hin3]; rfl
                  go_wp2_with fail
                  go_ret
                  exact ⟨by rw [HR.out]; rfl, hb9.out⟩
                | true =>
                  have HIN3 : Hid ((s.preds.drop (m + 1)).all predB = Q2) := by show _ = _; rw [← hin3]; rfl
                  go_wp2_with fail
                  go_roundw
                  case rel => exact ⟨m + 1, by omega, by go_num, HIN3, hb10.out⟩
                  case measure => simp [intOf]; omega
              · have HQ2 : Hid (Q2 = true) := by
                  show _ = _
                  rw [← hin2.out, List.drop_eq_nil_of_le (by omega)]; rfl
                have HIN : Hid ((l.drop (n + 1)).all stepB = Q) := by show _ = _; rw [← hin', HQ2.out]; rfl
                have m1 : (s.preds.length : Int) ≤ m := by omega
                clear hin2
                go_wp2_with fail
                go_roundw
                case rel => exact ⟨n + 1, by omega, by go_num, HIN, hbq.out⟩
                case measure => simp [intOf]; omega
        · have t1 : (s.test == 1) = false := by simpa using ht
          have t2 : (s.test != 1) = true := by simpa using ht
          have hnm : nameB s = decide (s.name = []) := by unfold nameB; rw [if_neg ht]
          rw [hok, hnm] at hin'
          clear hok hnm ht
          by_cases hn0 : s.name = []
          · obtain ⟨Q2, hQ2⟩ : ∃ Q2, Hid (s.preds.all predB = Q2) := ⟨_, rfl⟩
            rw [decide_eq_true hn0, Bool.true_and, hQ2.out] at hin'
            have HY3 : Hid (W1.cell? ⟨wr.heap.size, 3, none⟩ = some (.slice A' s.preds.length c')) := HY.out 3 _ rfl
            rw [hn0] at c2 hW1
            go_wp2_with fail
            rw [← hW1.out]
            clear c0 c1 c2 c3
            obtain ⟨q, hq⟩ : ∃ q, Hid (wr.heap.size = q) := ⟨_, rfl⟩
            have H3 : Hid (W1.cell? ⟨q, 3, none⟩ = some (.slice A' s.preds.length c')) := by show _ = _; rw [← hq.out]; exact HY3.out
            rw [hq.out]
            have HZ : q < W1.heap.size := by rw [← hq.out]; exact hz1
            go_loopw [5] (fun i wq => ∃ (m : Nat), m ≤ s.preds.length ∧ i = .int .i64 (m : Int) ∧ Hid ((s.preds.drop m).all predB = Q2) ∧ Hid (Below W1.heap.size W1 wq)) (fun i _ => s.preds.length - (intOf i).toNat)
            case atStart => exact ⟨0, Nat.zero_le _, by go_num, hQ2.out, Below.refl _ _⟩
            case round =>
              rename_i wq0 _
              obtain ⟨m, hml, rfl, hin2, hbq0⟩ := hrel
              have hbq : Hid (Below w.heap.size w wr) := HB1.out.trans (hbq0.out.mono HB1.out.size)
              have hc3 : wr.cell? ⟨q, 3, none⟩ = some (.slice A' s.preds.length c') := (hbq0.out.cell (p := ⟨q, 3, none⟩) HZ).trans H3.out
              have m0 : (0 : Int) ≤ (m : Int) := by omega
              by_cases hmt : m < s.preds.length
              · obtain ⟨pd, rfl, _⟩ := HPA.out (by omega)
                obtain ⟨x, hx⟩ : ∃ x, Hid (s.preds[m]? = some x) := ⟨s.preds[m], List.getElem?_eq_getElem _⟩
                obtain ⟨pd', he', hpb, hpc'⟩ := HPA.out (by omega)
                injection he' with he'
                subst he'
                obtain ⟨p0, p1, p2, p3⟩ := hpc' m x hx.out
                have q0 := (hbq.out.cell (p := pd.add (m * 4)) (by rw [block_of_add]; exact hpb)).trans p0
                have q1 := (hbq.out.cell (p := ⟨(pd.add (m * 4)).block, (pd.add (m * 4)).off + 1, none⟩) (by show (pd.add _).block < _; rw [block_of_add]; exact hpb)).trans p1
                have q2 := (hbq.out.cell (p := ⟨(pd.add (m * 4)).block, (pd.add (m * 4)).off + 2, none⟩) (by show (pd.add _).block < _; rw [block_of_add]; exact hpb)).trans p2
                have q3 := (hbq.out.cell (p := ⟨(pd.add (m * 4)).block, (pd.add (m * 4)).off + 3, none⟩) (by show (pd.add _).block < _; rw [block_of_add]; exact hpb)).trans p3
                have m1 : (m : Int) < s.preds.length := by omega
                obtain ⟨v, hv⟩ : ∃ v, Hid (predB x = v) := ⟨_, rfl⟩
                have hin3 := hin2.out
                rw [drop_cons hx.out, List.all_cons, hv.out] at hin3
                clear p0 p1 p2 p3 hpc' hin2
                go_wp2_with fail
                refine (rright_any x _ (HSM.out x (List.mem_of_getElem? hx.out)) v hv).mono ?_
                rintro e w8 ⟨rfl, hb8⟩
                have hb9 : Hid (Below w.heap.size w w8) := hbq.out.trans (hb8.mono hbq.out.size)
                have hb10 : Hid (Below W1.heap.size W1 w8) := hbq0.out.trans (hb8.mono hbq0.out.size)
                clear q0 q1 q2 q3 hb8 hc3
                cases v with
                | false =>
                  have HR : Hid (R = false) := by
                    show _ = _
                    rw [← HRQ.out, ← hin', ← hin3]; rfl
                  go_wp2_with fail
                  go_ret
                  exact ⟨by rw [HR.out]; rfl, hb9.out⟩
                | true =>
                  have HIN3 : Hid ((s.preds.drop (m + 1)).all predB = Q2) := by show _ = _; rw [← hin3]; rfl
                  go_wp2_with fail
                  go_roundw
                  case rel => exact ⟨m + 1, by omega, by go_num, HIN3, hb10.out⟩
                  case measure => simp [intOf]; omega
              · have HQ2 : Hid (Q2 = true) := by
                  show _ = _
                  rw [← hin2.out, List.drop_eq_nil_of_le (by omega)]; rfl
                have HIN : Hid ((l.drop (n + 1)).all stepB = Q) := by show _ = _; rw [← hin', HQ2.out]; rfl
                have m1 : (s.preds.length : Int) ≤ m := by omega
                clear hin2
                go_wp2_with fail
                go_roundw
                case rel => exact ⟨n + 1, by omega, by go_num, HIN, hbq.out⟩
                case measure => simp [intOf]; omega
          · have HQ : Hid (Q = false) := by show _ = _; rw [← hin', decide_eq_false hn0]; rfl
            have hne : s.name.isEmpty = false := by
              cases hs0 : s.name with
              | nil => exact absurd hs0 hn0
              | cons _ _ => rfl
            have HR : Hid (R = false) := by show _ = _; rw [← HRQ.out, HQ.out]; rfl
            clear hin'
            go_wp2_with fail
            go_ret
            exact ⟨by rw [HR.out]; rfl, hbelH.out.alloc hbelH.out.size _⟩
      · have hok : headB s = false := by
          unfold headB
          rw [Bool.eq_false_iff]
          intro h
          simp only [Bool.and_eq_true, decide_eq_true_eq] at h
          exact h0 ⟨h.1.1.1, h.1.1.2, h.2⟩
        have HQ : Hid (Q = false) := by show _ = _; rw [← hin', hok]; rfl
        have HR : Hid (R = false) := by show _ = _; rw [← HRQ.out, HQ.out]; rfl
        have H0 := Lib.hid h0
        clear hin' h0 hok
        go_wp2_with fail
        all_goals first
          | (go_ret; exact ⟨by rw [HR.out]; rfl, hbelH.out.alloc hbelH.out.size _⟩)
          | (exfalso; have := H0.out; omega)
    · have HQ : Hid (Q = true) := by
        show _ = _
        rw [← hin.out, List.drop_eq_nil_of_le (by omega)]; rfl
      have hRl : (decide (1 ≤ l.length ∧ l.length ≤ 20)) = R := by rw [← HRQ.out, HQ.out]; rfl
      have j1 : (l.length : Int) ≤ n := by omega
      clear hin
      by_cases h1 : 1 ≤ l.length
      · by_cases h2 : l.length ≤ 20
        · have HR : Hid (R = true) := by show _ = _; rw [← hRl]; simp; omega
          have k1 : (1 : Int) ≤ l.length := by omega
          have k2 : (l.length : Int) ≤ 20 := by omega
          clear hRl h1 h2
          go_wp2_with fail
          go_ret
          exact ⟨by rw [HR.out]; rfl, hbelH.out⟩
        · have HR : Hid (R = false) := by show _ = _; rw [← hRl]; simp; omega
          have k1 : (1 : Int) ≤ l.length := by omega
          have k2 : decide ((l.length : Int) ≤ 20) = false := decide_eq_false (by omega)
          clear hRl h1 h2
          go_wp2_with fail
          go_ret
          exact ⟨by rw [HR.out]; rfl, hbelH.out⟩
      · have HR : Hid (R = false) := by show _ = _; rw [← hRl]; simp; omega
        have k1 : (l.length : Int) < 1 := by omega
        clear hRl h1
        go_wp2_with fail
        go_ret
        exact ⟨by rw [HR.out]; rfl, hbelH.out⟩
end Go.Proofs.YtpfhdklbhhpbcaaDoor

/-
  The walks of the document's digits and written (queries).
-/
namespace Go.Proofs.YtpfhdklbhhpbcaaDoor
open Go.RowKit

theorem dec_ten {n : Nat} (h : 10 ≤ n) : Lib.decDigits n = Lib.decDigits (n / 10) ++ [bt (48 + ((n % 10 : Nat) : Int))] := by
  rw [Lib.decDigits, dif_neg (by omega)]
  rfl
theorem dec_lt {n : Nat} (h : n < 10) : Lib.decDigits n = [bt (48 + (n : Int))] := by
  rw [Lib.decDigits_one h]
  unfold bt
  rw [show (48 + (n : Int)).toNat = 48 + n by omega]

theorem ndig_pw : ∀ (k n : Nat), n < 10 ^ (k + 1) → Lib.nDigits n ≤ k + 1
  | 0, n, h => by rw [Lib.nDigits]; split <;> omega
  | k + 1, n, h => by
    rw [Lib.nDigits]
    split
    · omega
    · have := ndig_pw k (n / 10) (by rw [Nat.pow_succ] at h; omega)
      omega
set_option maxRecDepth 100000 in
set_option maxHeartbeats 4000000 in
theorem digits_any (k : Nat) : ∀ (n : Nat), n ≤ k → n ≤ 1000000 → ∀ (w : World) (T : List UInt8), Hid (Lib.decDigits n = T) → Calls Tryd.prog 31 #[.int .i64 (n : Int)] w (Ret w (.string ⟨T.toArray⟩)) := by
  induction k with
  | zero =>
    intro n hk hn w T hT
    have h0 : n = 0 := by omega
    subst h0
    have hcv := run_string_lit (P := Tryd.prog) [bt 48] #[Value.int .u8 48] (by simp only [Lib.byteCells, List.map_cons, List.map_nil]; rfl) (by simp [maxLen]) Tryd.underlying41 Tryd.underlying5 Tryd.underlying9
    simp only [List.length_singleton] at hcv
    go_enter Tryd.func31, Tryd.ntmps31
    go_wp2_with fail
    go_ret
    exact ⟨by rw [← hT.out, dec_lt (by decide)]; rfl, (Below.refl _ w).alloc (Nat.le_refl _) _⟩
  | succ k ih =>
    intro n hk hn w T hT
    by_cases hlt : n < 10
    · have hcv := run_string_lit (P := Tryd.prog) [bt (48 + (n : Int))] #[Value.int .u8 (48 + (n : Int))] (by simp only [Lib.byteCells, List.map_cons, List.map_nil]; rw [bt_toNat _ (by omega) (by omega)]) (by simp [maxLen]) Tryd.underlying41 Tryd.underlying5 Tryd.underlying9
      simp only [List.length_singleton] at hcv
      have hlt' : (n : Int) < 10 := by omega
      have hn0 : (0 : Int) ≤ (n : Int) := by omega
      have HT : Hid (T = [bt (48 + (n : Int))]) := by show _ = _; rw [← hT.out, dec_lt hlt]
      clear hT
      go_enter Tryd.func31, Tryd.ntmps31
      go_wp2_with fail
      go_ret
      exact ⟨by rw [HT.out]; rfl, (Below.refl _ w).alloc (Nat.le_refl _) _⟩
    · obtain ⟨q, hq⟩ : ∃ q : Nat, Hid (n / 10 = q) := ⟨_, rfl⟩
      obtain ⟨r, hr⟩ : ∃ r : Nat, Hid (n % 10 = r) := ⟨_, rfl⟩
      obtain ⟨D, hD⟩ : ∃ D, Hid (Lib.decDigits q = D) := ⟨_, rfl⟩
      have hqk : q ≤ k := by rw [← hq.out]; omega
      have hqn : q ≤ 1000000 := by rw [← hq.out]; omega
      have hr9 : r < 10 := by rw [← hr.out]; omega
      have HT : Hid (T = D ++ [bt (48 + (r : Int))]) := by show _ = _; rw [← hT.out, dec_ten (by omega), hq.out, hr.out, hD.out]
      have e1 : (n : Int) / 10 = (q : Int) := by rw [← hq.out]; omega
      have e2 : (n : Int) % 10 = (r : Int) := by rw [← hr.out]; omega
      have e3 : (n : Int).tdiv 10 = (q : Int) := by rw [Int.tdiv_eq_ediv_of_nonneg (by omega)]; exact e1
      have e4 : (n : Int).tmod 10 = (r : Int) := by rw [Int.tmod_eq_emod_of_nonneg (by omega)]; exact e2
      have e5 : IntKind.i64.wrap (q : Int) = (q : Int) := IntWalk.i64_in _ (by omega)
      have e6 : IntKind.i64.wrap (r : Int) = (r : Int) := IntWalk.i64_in _ (by omega)
      have e7 : IntKind.i64.wrap (48 + (r : Int)) = 48 + (r : Int) := IntWalk.i64_in _ (by omega)
      have e8 : IntKind.u8.wrap (48 + (r : Int)) = 48 + (r : Int) := by unfold IntKind.wrap; simp [IntKind.bits, IntKind.signed]; omega
      have hrb : (48 + (r : Int)) < 256 := by omega
      have hcv := run_string_lit (P := Tryd.prog) [bt (48 + (r : Int))] #[Value.int .u8 (48 + (r : Int))] (by simp only [Lib.byteCells, List.map_cons, List.map_nil]; rw [bt_toNat _ (by omega) (by omega)]) (by simp [maxLen]) Tryd.underlying41 Tryd.underlying5 Tryd.underlying9
      simp only [List.length_singleton] at hcv
      have hcd : (convert 41 9 (.slice (some ⟨w.heap.size, 0, none⟩) 1 1)).run Tryd.prog (w.alloc (.cells #[.int .u8 (48 + (r : Int))] 5)).drew = .ok (.string ⟨[bt (48 + (r : Int))].toArray⟩) (w.alloc (.cells #[.int .u8 (48 + (r : Int))] 5)).drew := by
        refine run_string_own (B := w.heap.size) (l := [bt (48 + (r : Int))]) ?_ Tryd.underlying41 Tryd.underlying5 Tryd.underlying9
        simp only [Lib.byteCells, List.map_cons, List.map_nil]
        rw [bt_toNat _ (by omega) (by omega)]
        exact own_lit w 5 _ _ (Nat.le_refl _)
      have hlt' : (10 : Int) ≤ (n : Int) := by omega
      have g0 : ¬ (9223372036854775807 < D.length + 1) := by
        have h1 := ndig_pw 6 q (by omega)
        rw [← Lib.decDigits_length, hD.out] at h1
        omega
      clear hlt hT
      go_enter Tryd.func31, Tryd.ntmps31
      go_wp2_with fail
      refine wp_region_held_drew (S := fun _ => True) (by kernel_rfl) trivial (fun hHeld => ?_)
      refine tks (oi := ⟨_, _, _, _, _, _⟩) (v := ?_) 0 rfl (.inl ⟨by rfl, ?_⟩) ?_; rotate_left
      · (intro wS hSw; (try dsimp only at hSw); go_simp); all_goals with_reducible rfl
      try go_frame
      refine tks (oi := ⟨_, _, _, _, _, _⟩) (v := ?_) 1 rfl (.inl ⟨by rfl, ?_⟩) ?_; rotate_left
      · (intro wS hSw; (try dsimp only at hSw); go_simp); all_goals with_reducible rfl
      try go_frame
      refine tks (oi := ⟨_, _, _, _, _, _⟩) (v := ?_) 3 rfl (.inl ⟨by rfl, ?_⟩) ?_; rotate_left
      · (intro wS hSw; (try dsimp only at hSw); go_simp); all_goals with_reducible rfl
      try go_frame
      refine tks (oi := ⟨_, _, _, _, _, _⟩) (v := ?_) 4 rfl (.inl ⟨by rfl, ?_⟩) ?_; rotate_left
      · (intro wS hSw; (try dsimp only at hSw); go_simp); all_goals with_reducible rfl
      try go_frame
      refine tks (oi := ⟨_, _, _, _, _, _⟩) (v := ?_) 5 rfl (.inl ⟨by rfl, ?_⟩) ?_; rotate_left
      · (intro wS hSw; (try dsimp only at hSw); go_simp); all_goals with_reducible rfl
      try go_frame
      refine tks (oi := ⟨_, _, _, _, _, _⟩) (v := ?_) 6 rfl (.inl ⟨by rfl, ?_⟩) ?_; rotate_left
      · (intro wS hSw; (try dsimp only at hSw); go_simp); all_goals with_reducible rfl
      try go_frame
      refine wpAnyH_ready (rs := [2, 7]) (by kernel_rfl) (by simp) ?_
      refine AllReadyH.cons (o := ⟨_, _, _, _, _, _⟩) rfl (fun K hK => ?_) (AllReadyH.cons (o := ⟨_, _, _, _, _, _⟩) rfl (fun K hK => ?_) AllReadyH.nil)
      · go_simp
        refine (ih q hqk hqn _ D hD).mono ?_
        rintro e w2 ⟨rfl, hb2⟩
        have HB2 : Hid (Below w.heap.size w w2) := ((Below.refl _ w).drew).trans hb2
        go_wp2_with fail
        refine hK.out _ _ (trivial) (fun hHeld => ?_)
        clear hK K
        try go_frame
        refine wpAnyH_ready (rs := [7]) (by kernel_rfl) (by simp) ?_
        refine AllReadyH.cons (o := ⟨_, _, _, _, _, _⟩) rfl (fun K hK => ?_) AllReadyH.nil
        go_simp
        refine hK.out _ _ (trivial) (fun hHeld => ?_)
        clear hK K
        try go_frame
        refine wpAnyH_ready (rs := [8]) (by kernel_rfl) (by simp) ?_
        refine AllReadyH.cons (o := ⟨_, _, _, _, _, _⟩) rfl (fun K hK => ?_) AllReadyH.nil
        go_simp
        refine hK.out _ _ (trivial) (fun hHeld => ?_)
        clear hK K
        try go_frame
        refine tks (oi := ⟨_, _, _, _, _, _⟩) (v := ?_) 9 rfl (.inl ⟨by rfl, ?_⟩) ?_; rotate_left
        · (intro wS hSw; (try dsimp only at hSw); go_simp); all_goals with_reducible rfl
        try go_frame
        refine tks (oi := ⟨_, _, _, _, _, _⟩) (v := ?_) 10 rfl (.inl ⟨by rfl, ?_⟩) ?_; rotate_left
        · (intro wS hSw; (try dsimp only at hSw); go_simp); all_goals with_reducible rfl
        try go_frame
        refine wpAnyH_done (by kernel_rfl) ?_ _
        clear hHeld
        go_wp2_with fail
        go_ret
        exact ⟨by rw [HT.out]; exact congrArg (fun a => Ending.returned (Value.string a)) (str_app _ _), HB2.out.alloc HB2.out.size _⟩
      · go_simp
        refine hK.out _ _ (trivial) (fun hHeld => ?_)
        clear hK K
        try go_frame
        refine wpAnyH_ready (rs := [2, 8]) (by kernel_rfl) (by simp) ?_
        refine AllReadyH.cons (o := ⟨_, _, _, _, _, _⟩) rfl (fun K hK => ?_) (AllReadyH.cons (o := ⟨_, _, _, _, _, _⟩) rfl (fun K hK => ?_) AllReadyH.nil)
        · go_simp
          refine (ih q hqk hqn _ D hD).mono ?_
          rintro e w2 ⟨rfl, hb2⟩
          have hown := own_below (own_lit w.drew 5 (.int .u8 (48 + (r : Int))) w.heap.size (Nat.le_refl _)) hb2
          have HB2 : Hid (Below w.heap.size w w2) := ((Below.refl _ w).drew.alloc (Nat.le_refl _) _).trans (hb2.mono (by simp))
          have hcv2 : (convert 41 9 (.slice (some ⟨w.heap.size, 0, none⟩) 1 1)).run Tryd.prog w2 = .ok (.string ⟨[bt (48 + (r : Int))].toArray⟩) w2 := by
            refine run_string_own (B := w.heap.size) (l := [bt (48 + (r : Int))]) ?_ Tryd.underlying41 Tryd.underlying5 Tryd.underlying9
            simp only [Lib.byteCells, List.map_cons, List.map_nil]
            rw [bt_toNat _ (by omega) (by omega)]
            exact hown
          clear hown hb2
          go_wp2_with fail
          refine hK.out _ _ (trivial) (fun hHeld => ?_)
          clear hK K
          try go_frame
          refine wpAnyH_ready (rs := [8]) (by kernel_rfl) (by simp) ?_
          refine AllReadyH.cons (o := ⟨_, _, _, _, _, _⟩) rfl (fun K hK => ?_) AllReadyH.nil
          go_simp
          refine hK.out _ _ (trivial) (fun hHeld => ?_)
          clear hK K
          try go_frame
          refine tks (oi := ⟨_, _, _, _, _, _⟩) (v := ?_) 9 rfl (.inl ⟨by rfl, ?_⟩) ?_; rotate_left
          · (intro wS hSw; (try dsimp only at hSw); go_simp); all_goals with_reducible rfl
          try go_frame
          refine tks (oi := ⟨_, _, _, _, _, _⟩) (v := ?_) 10 rfl (.inl ⟨by rfl, ?_⟩) ?_; rotate_left
          · (intro wS hSw; (try dsimp only at hSw); go_simp); all_goals with_reducible rfl
          try go_frame
          refine wpAnyH_done (by kernel_rfl) ?_ _
          clear hHeld
          go_wp2_with fail
          go_ret
          exact ⟨by rw [HT.out]; exact congrArg (fun a => Ending.returned (Value.string a)) (str_app _ _), HB2.out⟩
        · go_simp
          refine hK.out _ _ (trivial) (fun hHeld => ?_)
          clear hK K
          try go_frame
          refine wpAnyH_ready (rs := [2]) (by kernel_rfl) (by simp) ?_
          refine AllReadyH.cons (o := ⟨_, _, _, _, _, _⟩) rfl (fun K hK => ?_) AllReadyH.nil
          go_simp
          refine (ih q hqk hqn _ D hD).mono ?_
          rintro e w2 ⟨rfl, hb2⟩
          have HB2 : Hid (Below w.heap.size w w2) := ((Below.refl _ w).drew.alloc (Nat.le_refl _) _).trans (hb2.mono (by simp))
          go_wp2_with fail
          refine hK.out _ _ (trivial) (fun hHeld => ?_)
          clear hK K
          try go_frame
          refine tks (oi := ⟨_, _, _, _, _, _⟩) (v := ?_) 9 rfl (.inl ⟨by rfl, ?_⟩) ?_; rotate_left
          · (intro wS hSw; (try dsimp only at hSw); go_simp); all_goals with_reducible rfl
          try go_frame
          refine tks (oi := ⟨_, _, _, _, _, _⟩) (v := ?_) 10 rfl (.inl ⟨by rfl, ?_⟩) ?_; rotate_left
          · (intro wS hSw; (try dsimp only at hSw); go_simp); all_goals with_reducible rfl
          try go_frame
          refine wpAnyH_done (by kernel_rfl) ?_ _
          clear hHeld
          go_wp2_with fail
          go_ret
          exact ⟨by rw [HT.out]; exact congrArg (fun a => Ending.returned (Value.string a)) (str_app _ _), HB2.out⟩

theorem RValue_q (s : List UInt8) (w : World) (hs : s.length ≤ 1000000000) (o : List UInt8) (ho : Hid (escV s = o)) :
    Calls Tryd.prog 30 #[.string ⟨s.toArray⟩] w (Ret w (.tuple #[.string ⟨o.toArray⟩, .bool (escL true s).isSome])) := by
  have := RValue_any ⟨s.toArray⟩ w (by show s.toArray.size ≤ _; simpa using hs)
  rw [← ho.out]
  exact this


set_option maxRecDepth 100000 in
set_option maxHeartbeats 4000000 in
theorem rwritten_any (p : PredD) (w : World) (hp : SmallPred p) (hok : predB p = true) (T : List UInt8) (hT : Hid (predT p = T)) :
    Calls Tryd.prog 21 #[.agg (predC p)] w (Ret w (.string ⟨T.toArray⟩)) := by
  obtain ⟨hpn, hpv⟩ := hp
  obtain ⟨o, ho⟩ : ∃ o, Hid (escV p.value = o) := ⟨_, rfl⟩
  have hT' := hT.out
  unfold predT at hT'
  rw [ho.out] at hT'
  unfold predB at hok
  by_cases h1 : p.kind = 1
  · rw [if_pos h1] at hT' hok
    simp only [Bool.and_eq_true, decide_eq_true_eq] at hok
    have n1 := hok.1.1
    have n2 := hok.1.2
    clear hok
    have HT' := Lib.hid hT'
    have t1 : (p.kind == 1) = true := by simpa using h1
    clear h1 hT'
    have hol : o.length ≤ 6000000000 := by
      have := esc_fit true p.value
      have h2 : ((escL true p.value).getD []) = o := ho.out
      rw [h2] at this; omega
    obtain ⟨W1, hW1⟩ : ∃ W1, Hid (W1 = w.alloc (.cells #[.int .i64 p.kind, .int .i64 p.num, .string ⟨p.name.toArray⟩, .string ⟨p.value.toArray⟩] 39)) := ⟨_, rfl⟩
    have hb1 : Below w.heap.size w W1 := by rw [hW1.out]; exact (Below.refl _ w).alloc (Nat.le_refl _) _
    have hz1 : w.heap.size < W1.heap.size := by rw [hW1.out]; simp
    have y : ∀ (j : Nat) (u : Value), (#[.int .i64 p.kind, .int .i64 p.num, .string ⟨p.name.toArray⟩, .string ⟨p.value.toArray⟩] : Array Value)[j]? = some u → W1.cell? ⟨w.heap.size, j, none⟩ = some u := fun j u hu => by rw [hW1.out, World.cell?_alloc_at _ _ _ _ rfl]; exact hu
    have HY := Lib.hid y
    clear y
    show Calls Tryd.prog 21 #[.agg #[.int .i64 p.kind, .int .i64 p.num, .string ⟨p.name.toArray⟩, .string ⟨p.value.toArray⟩]] w _
    go_enter Tryd.func21, Tryd.ntmps21
    go_wp2_with fail
    rw [← hW1.out]
    refine (RValue_q p.value W1 hpv o ho).mono ?_
    rintro e w2 ⟨rfl, hb2⟩
    have c0 : w2.cell? ⟨w.heap.size, 0, none⟩ = some (.int .i64 p.kind) := (hb2.cell hz1).trans (HY.out 0 _ rfl)
    have c1 : w2.cell? ⟨w.heap.size, 1, none⟩ = some (.int .i64 p.num) := (hb2.cell hz1).trans (HY.out 1 _ rfl)
    have c2 : w2.cell? ⟨w.heap.size, 2, none⟩ = some (.string ⟨p.name.toArray⟩) := (hb2.cell hz1).trans (HY.out 2 _ rfl)
    have HB := Lib.hid (hb1.trans (hb2.mono (Nat.le_of_lt hz1)))
    clear hb1 hb2
    obtain ⟨D, hD⟩ : ∃ D, Hid (Lib.decDigits p.num.toNat = D) := ⟨_, rfl⟩
    have hnn : Hid (p.num = ((p.num.toNat : Nat) : Int)) := by show _ = _; omega
    have hdl : D.length ≤ 20 := by
      rw [← hD.out, Lib.decDigits_length]
      have : p.num.toNat ≤ 9999 := by omega
      exact ndig_le _ this
    have hdi := digits_any 9999 p.num.toNat (by omega) (by omega)
    rw [← hnn.out] at hdi
    have HDI := Lib.hid hdi
    clear hdi
    go_wp2_with fail
    refine (HDI.out w2 D hD).mono ?_
    rintro e w3 ⟨rfl, hb3⟩
    have HB3 := Lib.hid (HB.out.trans (hb3.mono HB.out.size))
    clear hb3 c0 c1 c2
    go_wp2_with fail
    go_ret
    refine ⟨congrArg (fun a => Ending.returned (Value.string a)) (str_data ?_), HB3.out⟩
    rw [← HT'.out, hD.out]; simp
  · rw [if_neg h1] at hT' hok
    have t1 : (p.kind == 1) = false := by simpa using h1
    by_cases h2 : p.kind = 2
    · rw [if_pos h2] at hT'
      have HT' := Lib.hid hT'
      have t2 : (p.kind == 2) = true := by simpa using h2
      clear h1 h2 hT' hok
      have hol : o.length ≤ 6000000000 := by
        have := esc_fit true p.value
        have h2 : ((escL true p.value).getD []) = o := ho.out
        rw [h2] at this; omega
      obtain ⟨W1, hW1⟩ : ∃ W1, Hid (W1 = w.alloc (.cells #[.int .i64 p.kind, .int .i64 p.num, .string ⟨p.name.toArray⟩, .string ⟨p.value.toArray⟩] 39)) := ⟨_, rfl⟩
      have hb1 : Below w.heap.size w W1 := by rw [hW1.out]; exact (Below.refl _ w).alloc (Nat.le_refl _) _
      have hz1 : w.heap.size < W1.heap.size := by rw [hW1.out]; simp
      have y : ∀ (j : Nat) (u : Value), (#[.int .i64 p.kind, .int .i64 p.num, .string ⟨p.name.toArray⟩, .string ⟨p.value.toArray⟩] : Array Value)[j]? = some u → W1.cell? ⟨w.heap.size, j, none⟩ = some u := fun j u hu => by rw [hW1.out, World.cell?_alloc_at _ _ _ _ rfl]; exact hu
      have HY := Lib.hid y
      clear y
      show Calls Tryd.prog 21 #[.agg #[.int .i64 p.kind, .int .i64 p.num, .string ⟨p.name.toArray⟩, .string ⟨p.value.toArray⟩]] w _
      go_enter Tryd.func21, Tryd.ntmps21
      go_wp2_with fail
      rw [← hW1.out]
      refine (RValue_q p.value W1 hpv o ho).mono ?_
      rintro e w2 ⟨rfl, hb2⟩
      have c0 : w2.cell? ⟨w.heap.size, 0, none⟩ = some (.int .i64 p.kind) := (hb2.cell hz1).trans (HY.out 0 _ rfl)
      have c1 : w2.cell? ⟨w.heap.size, 1, none⟩ = some (.int .i64 p.num) := (hb2.cell hz1).trans (HY.out 1 _ rfl)
      have c2 : w2.cell? ⟨w.heap.size, 2, none⟩ = some (.string ⟨p.name.toArray⟩) := (hb2.cell hz1).trans (HY.out 2 _ rfl)
      have HB := Lib.hid (hb1.trans (hb2.mono (Nat.le_of_lt hz1)))
      clear hb1 hb2
      go_wp2_with fail
      go_ret
      refine ⟨congrArg (fun a => Ending.returned (Value.string a)) (str_data ?_), HB.out⟩
      rw [← HT'.out]; rfl
    · rw [if_neg h2] at hT' hok
      have t2 : (p.kind == 2) = false := by simpa using h2
      by_cases h3 : p.kind = 3
      · rw [if_pos h3] at hT'
        have HT' := Lib.hid hT'
        have t3 : (p.kind == 3) = true := by simpa using h3
        clear h1 h2 h3 hT' hok
        have hol : o.length ≤ 6000000000 := by
          have := esc_fit true p.value
          have h2 : ((escL true p.value).getD []) = o := ho.out
          rw [h2] at this; omega
        obtain ⟨W1, hW1⟩ : ∃ W1, Hid (W1 = w.alloc (.cells #[.int .i64 p.kind, .int .i64 p.num, .string ⟨p.name.toArray⟩, .string ⟨p.value.toArray⟩] 39)) := ⟨_, rfl⟩
        have hb1 : Below w.heap.size w W1 := by rw [hW1.out]; exact (Below.refl _ w).alloc (Nat.le_refl _) _
        have hz1 : w.heap.size < W1.heap.size := by rw [hW1.out]; simp
        have y : ∀ (j : Nat) (u : Value), (#[.int .i64 p.kind, .int .i64 p.num, .string ⟨p.name.toArray⟩, .string ⟨p.value.toArray⟩] : Array Value)[j]? = some u → W1.cell? ⟨w.heap.size, j, none⟩ = some u := fun j u hu => by rw [hW1.out, World.cell?_alloc_at _ _ _ _ rfl]; exact hu
        have HY := Lib.hid y
        clear y
        show Calls Tryd.prog 21 #[.agg #[.int .i64 p.kind, .int .i64 p.num, .string ⟨p.name.toArray⟩, .string ⟨p.value.toArray⟩]] w _
        go_enter Tryd.func21, Tryd.ntmps21
        go_wp2_with fail
        rw [← hW1.out]
        refine (RValue_q p.value W1 hpv o ho).mono ?_
        rintro e w2 ⟨rfl, hb2⟩
        have c0 : w2.cell? ⟨w.heap.size, 0, none⟩ = some (.int .i64 p.kind) := (hb2.cell hz1).trans (HY.out 0 _ rfl)
        have c1 : w2.cell? ⟨w.heap.size, 1, none⟩ = some (.int .i64 p.num) := (hb2.cell hz1).trans (HY.out 1 _ rfl)
        have c2 : w2.cell? ⟨w.heap.size, 2, none⟩ = some (.string ⟨p.name.toArray⟩) := (hb2.cell hz1).trans (HY.out 2 _ rfl)
        have HB := Lib.hid (hb1.trans (hb2.mono (Nat.le_of_lt hz1)))
        clear hb1 hb2
        go_wp2_with fail
        go_ret
        refine ⟨congrArg (fun a => Ending.returned (Value.string a)) (str_data ?_), HB.out⟩
        rw [← HT'.out]; simp
      · rw [if_neg h3] at hT' hok
        have t3 : (p.kind == 3) = false := by simpa using h3
        by_cases h4 : p.kind = 4
        · rw [if_pos h4] at hT'
          have HT' := Lib.hid hT'
          have t4 : (p.kind == 4) = true := by simpa using h4
          clear h1 h2 h3 h4 hT' hok
          have hol : o.length ≤ 6000000000 := by
            have := esc_fit true p.value
            have h2 : ((escL true p.value).getD []) = o := ho.out
            rw [h2] at this; omega
          obtain ⟨W1, hW1⟩ : ∃ W1, Hid (W1 = w.alloc (.cells #[.int .i64 p.kind, .int .i64 p.num, .string ⟨p.name.toArray⟩, .string ⟨p.value.toArray⟩] 39)) := ⟨_, rfl⟩
          have hb1 : Below w.heap.size w W1 := by rw [hW1.out]; exact (Below.refl _ w).alloc (Nat.le_refl _) _
          have hz1 : w.heap.size < W1.heap.size := by rw [hW1.out]; simp
          have y : ∀ (j : Nat) (u : Value), (#[.int .i64 p.kind, .int .i64 p.num, .string ⟨p.name.toArray⟩, .string ⟨p.value.toArray⟩] : Array Value)[j]? = some u → W1.cell? ⟨w.heap.size, j, none⟩ = some u := fun j u hu => by rw [hW1.out, World.cell?_alloc_at _ _ _ _ rfl]; exact hu
          have HY := Lib.hid y
          clear y
          show Calls Tryd.prog 21 #[.agg #[.int .i64 p.kind, .int .i64 p.num, .string ⟨p.name.toArray⟩, .string ⟨p.value.toArray⟩]] w _
          go_enter Tryd.func21, Tryd.ntmps21
          go_wp2_with fail
          rw [← hW1.out]
          refine (RValue_q p.value W1 hpv o ho).mono ?_
          rintro e w2 ⟨rfl, hb2⟩
          have c0 : w2.cell? ⟨w.heap.size, 0, none⟩ = some (.int .i64 p.kind) := (hb2.cell hz1).trans (HY.out 0 _ rfl)
          have c1 : w2.cell? ⟨w.heap.size, 1, none⟩ = some (.int .i64 p.num) := (hb2.cell hz1).trans (HY.out 1 _ rfl)
          have c2 : w2.cell? ⟨w.heap.size, 2, none⟩ = some (.string ⟨p.name.toArray⟩) := (hb2.cell hz1).trans (HY.out 2 _ rfl)
          have HB := Lib.hid (hb1.trans (hb2.mono (Nat.le_of_lt hz1)))
          clear hb1 hb2
          go_wp2_with fail
          go_ret
          refine ⟨congrArg (fun a => Ending.returned (Value.string a)) (str_data ?_), HB.out⟩
          rw [← HT'.out]; simp
        · rw [if_neg h4] at hT' hok
          have t4 : (p.kind == 4) = false := by simpa using h4
          have HT' := Lib.hid hT'
          clear h1 h2 h3 h4 hT' hok
          have hol : o.length ≤ 6000000000 := by
            have := esc_fit true p.value
            have h2 : ((escL true p.value).getD []) = o := ho.out
            rw [h2] at this; omega
          obtain ⟨W1, hW1⟩ : ∃ W1, Hid (W1 = w.alloc (.cells #[.int .i64 p.kind, .int .i64 p.num, .string ⟨p.name.toArray⟩, .string ⟨p.value.toArray⟩] 39)) := ⟨_, rfl⟩
          have hb1 : Below w.heap.size w W1 := by rw [hW1.out]; exact (Below.refl _ w).alloc (Nat.le_refl _) _
          have hz1 : w.heap.size < W1.heap.size := by rw [hW1.out]; simp
          have y : ∀ (j : Nat) (u : Value), (#[.int .i64 p.kind, .int .i64 p.num, .string ⟨p.name.toArray⟩, .string ⟨p.value.toArray⟩] : Array Value)[j]? = some u → W1.cell? ⟨w.heap.size, j, none⟩ = some u := fun j u hu => by rw [hW1.out, World.cell?_alloc_at _ _ _ _ rfl]; exact hu
          have HY := Lib.hid y
          clear y
          show Calls Tryd.prog 21 #[.agg #[.int .i64 p.kind, .int .i64 p.num, .string ⟨p.name.toArray⟩, .string ⟨p.value.toArray⟩]] w _
          go_enter Tryd.func21, Tryd.ntmps21
          go_wp2_with fail
          rw [← hW1.out]
          refine (RValue_q p.value W1 hpv o ho).mono ?_
          rintro e w2 ⟨rfl, hb2⟩
          have c0 : w2.cell? ⟨w.heap.size, 0, none⟩ = some (.int .i64 p.kind) := (hb2.cell hz1).trans (HY.out 0 _ rfl)
          have c1 : w2.cell? ⟨w.heap.size, 1, none⟩ = some (.int .i64 p.num) := (hb2.cell hz1).trans (HY.out 1 _ rfl)
          have c2 : w2.cell? ⟨w.heap.size, 2, none⟩ = some (.string ⟨p.name.toArray⟩) := (hb2.cell hz1).trans (HY.out 2 _ rfl)
          have HB := Lib.hid (hb1.trans (hb2.mono (Nat.le_of_lt hz1)))
          clear hb1 hb2
          go_wp2_with fail
          go_ret
          refine ⟨congrArg (fun a => Ending.returned (Value.string a)) (str_data ?_), HB.out⟩
          rw [← HT'.out]; simp [tText]
end Go.Proofs.YtpfhdklbhhpbcaaDoor

/-
  Texts of this claim, joined (by a program of the claim's author): ROne, Check, Checks4.
-/
import Derived.Test.YthifddkmbjnncaaJ1
import Derived.Test.YthifddkmbjnncaaJ3
import Derived.Test.YthifddkmbjnncaaJ14
import Derived.Test.YthifddkmbjnncaaJ12
/-
  The walk of ref04.one: why an item may not be.
-/
namespace Go.Proofs.Ythifddkmbjnncaa
open Go.RowKit

set_option maxRecDepth 100000 in
set_option maxHeartbeats 2000000 in
theorem one_first (l : List ItemD) (ad : Addr) (c : Nat) (x : ItemD) (w : World) (hA : ItemsAt w w.heap.size (some ad) l) (hx : l[0]? = some x) (_hlen : l.length ≤ 1000000000) (hs : SmallItem x) (V : Int) (hV : Hid (oneE none 0 x = V)) :
    Calls Try.prog 52 #[.slice (some ad) l.length c, .int .i64 0] w (Ret w (.int .i64 V)) := by
  have hl : 0 < l.length := (List.getElem?_eq_some_iff.1 hx).1
  obtain ⟨hbl, A', c', hat, _, h0, h1, h2, h3, h4⟩ := hA.item hx
  unfold strV at h2 h3
  have ez : ad.add (0 * 5) = ad := by unfold Addr.add; simp
  rw [ez] at h0 h1 h2 h3 h4
  have HAT := Lib.hid hat
  have hV' := hV.out
  clear hA hx ez hat hV
  by_cases c1 : x.level ≠ 0 ∨ x.kind ≠ 1
  · have hv : Hid (69 = V) := by
      show _ = _
      rw [← hV']
      unfold oneE
      have : placeE none 0 x = 69 := by unfold placeE; exact if_pos c1
      rw [this]; rfl
    clear hV'
    by_cases c2 : x.level = 0
    · have d1 : (x.level != 0) = false := by simp [c2]
      have d2 : (x.kind != 1) = true := by simp; omega
      clear c1 c2
      go_enter Try.func52, Try.ntmps52
      go_wp2_with fail
      go_ret
      exact ⟨by rw [← hv.out]; rfl, (Below.refl _ w).alloc (Nat.le_refl _) _⟩
    · have d1 : (x.level != 0) = true := by simp [c2]
      clear c1 c2
      go_enter Try.func52, Try.ntmps52
      go_wp2_with fail
      go_ret
      exact ⟨by rw [← hv.out]; rfl, (Below.refl _ w).alloc (Nat.le_refl _) _⟩
  · have hl0 : x.level = 0 := by omega
    have hk1 : x.kind = 1 := by omega
    have hv : Hid (partsE x = V) := by
      show _ = _
      rw [← hV']
      unfold oneE
      have : placeE none 0 x = 0 := by unfold placeE; exact if_neg c1
      rw [this]; rfl
    have d1 : (x.level != 0) = false := by simp [hl0]
    have d2 : (x.kind != 1) = false := by simp [hk1]
    have l0 : x.level ≤ 0 := by omega
    clear hV' c1 hk1 hl0
    go_enter Try.func52, Try.ntmps52
    go_wp2_with fail
    refine wp_region_held_drew (S := fun _ => True) (by kernel_rfl) trivial (fun hHeld => ?_)
    refine tk (oi := ⟨_, _, _, _, _, _⟩) (v := ?_) 0 rfl (by kernel_rfl) (fun _ _ _ h => h) (.inl ⟨by rfl, ?_⟩) (by assumption) ?_; rotate_left
    · (intro wS hSw; (try dsimp only at hSw); go_simp); all_goals with_reducible rfl
    try go_frame
    refine tk (oi := ⟨_, _, _, _, _, _⟩) (v := ?_) 1 rfl (by kernel_rfl) (fun _ _ _ h => h) (.inl ⟨by rfl, ?_⟩) (by assumption) ?_; rotate_left
    · (intro wS hSw; (try dsimp only at hSw); go_simp); all_goals with_reducible rfl
    try go_frame
    refine tk (oi := ⟨_, _, _, _, _, _⟩) (v := ?_) 2 rfl (by kernel_rfl) (fun _ _ _ h => h) (.inl ⟨by rfl, ?_⟩) (by assumption) ?_; rotate_left
    · (intro wS hSw; (try dsimp only at hSw); go_simp); all_goals with_reducible rfl
    try go_frame
    refine tk (oi := ⟨_, _, _, _, _, _⟩) (v := undef) 3 rfl (by kernel_rfl) (fun _ _ _ h => h) (.inr ⟨by rfl, rfl⟩) (by assumption) ?_
    try go_frame
    refine tk (oi := ⟨_, _, _, _, _, _⟩) (v := undef) 4 rfl (by kernel_rfl) (fun _ _ _ h => h) (.inr ⟨by rfl, rfl⟩) (by assumption) ?_
    try go_frame
    refine tk (oi := ⟨_, _, _, _, _, _⟩) (v := undef) 5 rfl (by kernel_rfl) (fun _ _ _ h => h) (.inr ⟨by rfl, rfl⟩) (by assumption) ?_
    try go_frame
    refine tk (oi := ⟨_, _, _, _, _, _⟩) (v := undef) 6 rfl (by kernel_rfl) (fun _ _ _ h => h) (.inr ⟨by rfl, rfl⟩) (by assumption) ?_
    try go_frame
    refine tk (oi := ⟨_, _, _, _, _, _⟩) (v := undef) 7 rfl (by kernel_rfl) (fun _ _ _ h => h) (.inr ⟨by rfl, rfl⟩) (by assumption) ?_
    try go_frame
    refine tk (oi := ⟨_, _, _, _, _, _⟩) (v := undef) 8 rfl (by kernel_rfl) (fun _ _ _ h => h) (.inr ⟨by rfl, rfl⟩) (by assumption) ?_
    try go_frame
    refine tk (oi := ⟨_, _, _, _, _, _⟩) (v := undef) 9 rfl (by kernel_rfl) (fun _ _ _ h => h) (.inr ⟨by rfl, rfl⟩) (by assumption) ?_
    try go_frame
    refine tk (oi := ⟨_, _, _, _, _, _⟩) (v := undef) 10 rfl (by kernel_rfl) (fun _ _ _ h => h) (.inr ⟨by rfl, rfl⟩) (by assumption) ?_
    try go_frame
    refine tk (oi := ⟨_, _, _, _, _, _⟩) (v := undef) 11 rfl (by kernel_rfl) (fun _ _ _ h => h) (.inr ⟨by rfl, rfl⟩) (by assumption) ?_
    try go_frame
    refine tk (oi := ⟨_, _, _, _, _, _⟩) (v := undef) 12 rfl (by kernel_rfl) (fun _ _ _ h => h) (.inr ⟨by rfl, rfl⟩) (by assumption) ?_
    try go_frame
    refine tk (oi := ⟨_, _, _, _, _, _⟩) (v := undef) 13 rfl (by kernel_rfl) (fun _ _ _ h => h) (.inr ⟨by rfl, rfl⟩) (by assumption) ?_
    try go_frame
    refine tk (oi := ⟨_, _, _, _, _, _⟩) (v := undef) 14 rfl (by kernel_rfl) (fun _ _ _ h => h) (.inr ⟨by rfl, rfl⟩) (by assumption) ?_
    try go_frame
    refine tk (oi := ⟨_, _, _, _, _, _⟩) (v := undef) 15 rfl (by kernel_rfl) (fun _ _ _ h => h) (.inr ⟨by rfl, rfl⟩) (by assumption) ?_
    try go_frame
    refine tk (oi := ⟨_, _, _, _, _, _⟩) (v := undef) 16 rfl (by kernel_rfl) (fun _ _ _ h => h) (.inr ⟨by rfl, rfl⟩) (by assumption) ?_
    try go_frame
    refine tk (oi := ⟨_, _, _, _, _, _⟩) (v := undef) 17 rfl (by kernel_rfl) (fun _ _ _ h => h) (.inr ⟨by rfl, rfl⟩) (by assumption) ?_
    try go_frame
    refine tk (oi := ⟨_, _, _, _, _, _⟩) (v := undef) 18 rfl (by kernel_rfl) (fun _ _ _ h => h) (.inr ⟨by rfl, rfl⟩) (by assumption) ?_
    try go_frame
    refine tk (oi := ⟨_, _, _, _, _, _⟩) (v := undef) 19 rfl (by kernel_rfl) (fun _ _ _ h => h) (.inr ⟨by rfl, rfl⟩) (by assumption) ?_
    try go_frame
    refine tk (oi := ⟨_, _, _, _, _, _⟩) (v := undef) 20 rfl (by kernel_rfl) (fun _ _ _ h => h) (.inr ⟨by rfl, rfl⟩) (by assumption) ?_
    try go_frame
    refine tk (oi := ⟨_, _, _, _, _, _⟩) (v := undef) 21 rfl (by kernel_rfl) (fun _ _ _ h => h) (.inr ⟨by rfl, rfl⟩) (by assumption) ?_
    try go_frame
    refine tk (oi := ⟨_, _, _, _, _, _⟩) (v := undef) 22 rfl (by kernel_rfl) (fun _ _ _ h => h) (.inr ⟨by rfl, rfl⟩) (by assumption) ?_
    try go_frame
    refine tk (oi := ⟨_, _, _, _, _, _⟩) (v := undef) 23 rfl (by kernel_rfl) (fun _ _ _ h => h) (.inr ⟨by rfl, rfl⟩) (by assumption) ?_
    try go_frame
    refine tk (oi := ⟨_, _, _, _, _, _⟩) (v := undef) 24 rfl (by kernel_rfl) (fun _ _ _ h => h) (.inr ⟨by rfl, rfl⟩) (by assumption) ?_
    try go_frame
    refine tk (oi := ⟨_, _, _, _, _, _⟩) (v := undef) 25 rfl (by kernel_rfl) (fun _ _ _ h => h) (.inr ⟨by rfl, rfl⟩) (by assumption) ?_
    try go_frame
    refine tk (oi := ⟨_, _, _, _, _, _⟩) (v := undef) 26 rfl (by kernel_rfl) (fun _ _ _ h => h) (.inr ⟨by rfl, rfl⟩) (by assumption) ?_
    try go_frame
    refine tk (oi := ⟨_, _, _, _, _, _⟩) (v := undef) 27 rfl (by kernel_rfl) (fun _ _ _ h => h) (.inr ⟨by rfl, rfl⟩) (by assumption) ?_
    try go_frame
    refine tk (oi := ⟨_, _, _, _, _, _⟩) (v := undef) 28 rfl (by kernel_rfl) (fun _ _ _ h => h) (.inr ⟨by rfl, rfl⟩) (by assumption) ?_
    try go_frame
    refine tk (oi := ⟨_, _, _, _, _, _⟩) (v := undef) 29 rfl (by kernel_rfl) (fun _ _ _ h => h) (.inr ⟨by rfl, rfl⟩) (by assumption) ?_
    try go_frame
    refine tk (oi := ⟨_, _, _, _, _, _⟩) (v := undef) 30 rfl (by kernel_rfl) (fun _ _ _ h => h) (.inr ⟨by rfl, rfl⟩) (by assumption) ?_
    try go_frame
    refine tk (oi := ⟨_, _, _, _, _, _⟩) (v := undef) 31 rfl (by kernel_rfl) (fun _ _ _ h => h) (.inr ⟨by rfl, rfl⟩) (by assumption) ?_
    try go_frame
    refine tk (oi := ⟨_, _, _, _, _, _⟩) (v := undef) 32 rfl (by kernel_rfl) (fun _ _ _ h => h) (.inr ⟨by rfl, rfl⟩) (by assumption) ?_
    try go_frame
    refine tk (oi := ⟨_, _, _, _, _, _⟩) (v := undef) 33 rfl (by kernel_rfl) (fun _ _ _ h => h) (.inr ⟨by rfl, rfl⟩) (by assumption) ?_
    try go_frame
    refine tk (oi := ⟨_, _, _, _, _, _⟩) (v := undef) 34 rfl (by kernel_rfl) (fun _ _ _ h => h) (.inr ⟨by rfl, rfl⟩) (by assumption) ?_
    try go_frame
    refine tk (oi := ⟨_, _, _, _, _, _⟩) (v := undef) 35 rfl (by kernel_rfl) (fun _ _ _ h => h) (.inr ⟨by rfl, rfl⟩) (by assumption) ?_
    try go_frame
    refine tk (oi := ⟨_, _, _, _, _, _⟩) (v := undef) 36 rfl (by kernel_rfl) (fun _ _ _ h => h) (.inr ⟨by rfl, rfl⟩) (by assumption) ?_
    try go_frame
    refine tk (oi := ⟨_, _, _, _, _, _⟩) (v := undef) 37 rfl (by kernel_rfl) (fun _ _ _ h => h) (.inr ⟨by rfl, rfl⟩) (by assumption) ?_
    try go_frame
    refine tk (oi := ⟨_, _, _, _, _, _⟩) (v := undef) 38 rfl (by kernel_rfl) (fun _ _ _ h => h) (.inr ⟨by rfl, rfl⟩) (by assumption) ?_
    try go_frame
    refine tk (oi := ⟨_, _, _, _, _, _⟩) (v := ?_) 39 rfl (by kernel_rfl) (fun _ _ _ h => h) (.inl ⟨by rfl, ?_⟩) (by assumption) ?_; rotate_left
    · (intro wS hSw; (try dsimp only at hSw); go_simp); all_goals with_reducible rfl
    try go_frame
    refine wpAnyH_done (by kernel_rfl) ?_ _
    go_wp2_with fail
    refine (RParts_any x A' c' _ ?_ hs V hv).mono ?_
    · exact ((HAT.out.below (((Below.refl _ w).alloc (Nat.le_refl _) _).drew)).more (by simp))
    rintro e w3 ⟨rfl, hb3⟩
    go_wp2_with fail
    go_ret
    exact ⟨rfl, (((Below.refl _ w).alloc (Nat.le_refl _) _).drew).trans (hb3.mono (by simp))⟩

set_option maxRecDepth 100000 in
set_option maxHeartbeats 4000000 in
theorem one_later (l : List ItemD) (ad : Addr) (c k : Nat) (x p : ItemD) (w : World) (hA : ItemsAt w w.heap.size (some ad) l) (hk0 : 0 < k) (hx : l[k]? = some x) (hp : l[k - 1]? = some p) (hlen : l.length ≤ 1000000000) (hpl : -9000000000000000000 ≤ p.level ∧ p.level ≤ 9000000000000000000) (hs : SmallItem x) (V : Int) (hV : Hid (oneE (some p) k x = V)) :
    Calls Try.prog 52 #[.slice (some ad) l.length c, .int .i64 k] w (Ret w (.int .i64 V)) := by
  have hl : k < l.length := (List.getElem?_eq_some_iff.1 hx).1
  obtain ⟨hbl, A', c', hat, _, h0, h1, h2, h3, h4⟩ := hA.item hx
  obtain ⟨_, A2, c2, _, _, g0, g1, _, _, _⟩ := hA.item hp
  unfold strV at h2 h3
  have HAT := Lib.hid hat
  have hV' := hV.out
  clear hA hx hp hV hat
  have i1 : (0 : Int) ≤ (k : Int) := by omega
  have i2 : (1 : Int) ≤ (k : Int) := by omega
  have i3 : (k : Int) < l.length := by omega
  have i4 : (0 : Int) ≤ (k : Int) - 1 := by omega
  have i5 : (k : Int) - 1 < l.length := by omega
  have t0 : ((k : Int) == 0) = false := by simp; omega
  have t1 : decide ((0 : Int) < (k : Int)) = true := by simp; omega
  have t2 : decide (0 < k) = true := by simp; omega
  obtain ⟨lo, hi⟩ := hpl
  have hs5 := hs.2.2.2.2
  have HS := Lib.hid hs
  clear hs
  obtain ⟨W1, hW1⟩ : ∃ W1, Hid (W1 = w.alloc (.cells #[.int .i64 x.level, .int .i64 x.kind, .string ⟨x.name.toArray⟩, .string ⟨x.text.toArray⟩, .slice A' x.attrs.length c'] 50)) := ⟨_, rfl⟩
  have hS : Hid (W1.drew.cell? ⟨w.heap.size, 0, none⟩ = some (.int .i64 x.level) ∧ W1.drew.cell? (ad.add ((k - 1) * 5)) = some (.int .i64 p.level) ∧ W1.drew.cell? ⟨(ad.add ((k - 1) * 5)).block, (ad.add ((k - 1) * 5)).off + 1, none⟩ = some (.int .i64 p.kind)) := by
    refine ⟨?_, ?_, ?_⟩
    · rw [hW1.out]; show (w.alloc _).cell? _ = _; rw [World.cell?_alloc_at _ _ _ _ (by simp)]; rfl
    · rw [hW1.out]; show (w.alloc _).cell? _ = _; rw [World.cell?_alloc_lt _ _ _ (by rw [block_of_add]; exact hbl)]; exact g0
    · rw [hW1.out]; show (w.alloc _).cell? _ = _; rw [World.cell?_alloc_lt _ _ _ (by show (ad.add _).block < _; rw [block_of_add]; exact hbl)]; exact g1
  have hbW : Below w.heap.size w W1 := by rw [hW1.out]; exact (Below.refl _ w).alloc (Nat.le_refl _) _
  have hzW : w.heap.size < W1.heap.size := by rw [hW1.out]; simp
  have hcs : Hid (∀ w', Below W1.heap.size W1 w' → w'.cell? ⟨w.heap.size, 0, none⟩ = some (.int .i64 x.level) ∧ w'.cell? ⟨w.heap.size, 1, none⟩ = some (.int .i64 x.kind) ∧ w'.cell? ⟨w.heap.size, 2, none⟩ = some (.string ⟨x.name.toArray⟩) ∧ w'.cell? ⟨w.heap.size, 3, none⟩ = some (.string ⟨x.text.toArray⟩) ∧ w'.cell? ⟨w.heap.size, 4, none⟩ = some (.slice A' x.attrs.length c')) := fun w' hb => by
    refine ⟨?_, ?_, ?_, ?_, ?_⟩
    all_goals
      rw [hb.cell (by exact hzW), hW1.out, World.cell?_alloc_at _ _ _ _ (by simp)]; rfl
  by_cases c1 : x.level < 1
  · skip
    have hv : Hid (69 = V) := by
      show _ = _
      rw [← hV']
      unfold oneE
      have : placeE (some p) k x = 69 := by unfold placeE; exact if_pos (.inl c1)
      rw [this]; rfl
    have d1 : decide (x.level < 1) = true := by simp; omega
    clear hV'
    go_enter Try.func52, Try.ntmps52
    go_wp2_with fail
    rw [← hW1.out]
    refine wp_region_held_drew (S := fun w' => w'.cell? ⟨w.heap.size, 0, none⟩ = some (.int .i64 x.level) ∧ w'.cell? (ad.add ((k - 1) * 5)) = some (.int .i64 p.level) ∧ w'.cell? ⟨(ad.add ((k - 1) * 5)).block, (ad.add ((k - 1) * 5)).off + 1, none⟩ = some (.int .i64 p.kind)) (by kernel_rfl) hS.out (fun hHeld => ?_)
    refine tk (oi := ⟨_, _, _, _, _, _⟩) (v := ?_) 0 rfl (by kernel_rfl) (fun _ _ _ h => h) (.inl ⟨by rfl, ?_⟩) (by assumption) ?_; rotate_left
    · (intro wS hSw; (try dsimp only at hSw); go_simp); all_goals with_reducible rfl
    try go_frame
    refine tk (oi := ⟨_, _, _, _, _, _⟩) (v := ?_) 1 rfl (by kernel_rfl) (fun _ _ _ h => h) (.inl ⟨by rfl, ?_⟩) (by assumption) ?_; rotate_left
    · (intro wS hSw; (try dsimp only at hSw); go_simp); all_goals with_reducible rfl
    try go_frame
    refine tk (oi := ⟨_, _, _, _, _, _⟩) (v := ?_) 2 rfl (by kernel_rfl) (fun _ _ _ h => h) (.inl ⟨by rfl, ?_⟩) (by assumption) ?_; rotate_left
    · (intro wS hSw; (try dsimp only at hSw); go_simp); all_goals with_reducible rfl
    try go_frame
    refine tk (oi := ⟨_, _, _, _, _, _⟩) (v := ?_) 3 rfl (by kernel_rfl) (fun _ _ _ h => h) (.inl ⟨by rfl, ?_⟩) (by assumption) ?_; rotate_left
    · (intro wS hSw; (try dsimp only at hSw); go_simp); all_goals with_reducible rfl
    try go_frame
    refine tk (oi := ⟨_, _, _, _, _, _⟩) (v := ?_) 4 rfl (by kernel_rfl) (fun _ _ _ h => h) (.inl ⟨by rfl, ?_⟩) (by assumption) ?_; rotate_left
    · (intro wS hSw; (try dsimp only at hSw); go_simp); all_goals with_reducible rfl
    try go_frame
    refine tk (oi := ⟨_, _, _, _, _, _⟩) (v := ?_) 5 rfl (by kernel_rfl) (fun _ _ _ h => h) (.inl ⟨by rfl, ?_⟩) (by assumption) ?_; rotate_left
    · (intro wS hSw; (try dsimp only at hSw); go_simp); all_goals with_reducible rfl
    try go_frame
    refine tk (oi := ⟨_, _, _, _, _, _⟩) (v := ?_) 6 rfl (by kernel_rfl) (fun _ _ _ h => h) (.inl ⟨by rfl, ?_⟩) (by assumption) ?_; rotate_left
    · (intro wS hSw; (try dsimp only at hSw); go_simp); all_goals with_reducible rfl
    try go_frame
    refine tk (oi := ⟨_, _, _, _, _, _⟩) (v := undef) 7 rfl (by kernel_rfl) (fun _ _ _ h => h) (.inr ⟨by rfl, rfl⟩) (by assumption) ?_
    try go_frame
    refine tk (oi := ⟨_, _, _, _, _, _⟩) (v := undef) 8 rfl (by kernel_rfl) (fun _ _ _ h => h) (.inr ⟨by rfl, rfl⟩) (by assumption) ?_
    try go_frame
    refine tk (oi := ⟨_, _, _, _, _, _⟩) (v := undef) 9 rfl (by kernel_rfl) (fun _ _ _ h => h) (.inr ⟨by rfl, rfl⟩) (by assumption) ?_
    try go_frame
    refine tk (oi := ⟨_, _, _, _, _, _⟩) (v := undef) 10 rfl (by kernel_rfl) (fun _ _ _ h => h) (.inr ⟨by rfl, rfl⟩) (by assumption) ?_
    try go_frame
    refine tk (oi := ⟨_, _, _, _, _, _⟩) (v := undef) 11 rfl (by kernel_rfl) (fun _ _ _ h => h) (.inr ⟨by rfl, rfl⟩) (by assumption) ?_
    try go_frame
    refine tk (oi := ⟨_, _, _, _, _, _⟩) (v := undef) 12 rfl (by kernel_rfl) (fun _ _ _ h => h) (.inr ⟨by rfl, rfl⟩) (by assumption) ?_
    try go_frame
    refine tk (oi := ⟨_, _, _, _, _, _⟩) (v := undef) 13 rfl (by kernel_rfl) (fun _ _ _ h => h) (.inr ⟨by rfl, rfl⟩) (by assumption) ?_
    try go_frame
    refine tk (oi := ⟨_, _, _, _, _, _⟩) (v := undef) 14 rfl (by kernel_rfl) (fun _ _ _ h => h) (.inr ⟨by rfl, rfl⟩) (by assumption) ?_
    try go_frame
    refine tk (oi := ⟨_, _, _, _, _, _⟩) (v := undef) 15 rfl (by kernel_rfl) (fun _ _ _ h => h) (.inr ⟨by rfl, rfl⟩) (by assumption) ?_
    try go_frame
    refine tk (oi := ⟨_, _, _, _, _, _⟩) (v := undef) 16 rfl (by kernel_rfl) (fun _ _ _ h => h) (.inr ⟨by rfl, rfl⟩) (by assumption) ?_
    try go_frame
    refine tk (oi := ⟨_, _, _, _, _, _⟩) (v := ?_) 17 rfl (by kernel_rfl) (fun _ _ _ h => h) (.inl ⟨by rfl, ?_⟩) (by assumption) ?_; rotate_left
    · (intro wS hSw; (try dsimp only at hSw); go_simp); all_goals with_reducible rfl
    try go_frame
    refine tk (oi := ⟨_, _, _, _, _, _⟩) (v := ?_) 18 rfl (by kernel_rfl) (fun _ _ _ h => h) (.inl ⟨by rfl, ?_⟩) (by assumption) ?_; rotate_left
    · (intro wS hSw; (try dsimp only at hSw); go_simp); all_goals with_reducible rfl
    try go_frame
    refine tk (oi := ⟨_, _, _, _, _, _⟩) (v := undef) 19 rfl (by kernel_rfl) (fun _ _ _ h => h) (.inr ⟨by rfl, rfl⟩) (by assumption) ?_
    try go_frame
    refine tk (oi := ⟨_, _, _, _, _, _⟩) (v := undef) 20 rfl (by kernel_rfl) (fun _ _ _ h => h) (.inr ⟨by rfl, rfl⟩) (by assumption) ?_
    try go_frame
    refine tk (oi := ⟨_, _, _, _, _, _⟩) (v := undef) 21 rfl (by kernel_rfl) (fun _ _ _ h => h) (.inr ⟨by rfl, rfl⟩) (by assumption) ?_
    try go_frame
    refine tk (oi := ⟨_, _, _, _, _, _⟩) (v := undef) 22 rfl (by kernel_rfl) (fun _ _ _ h => h) (.inr ⟨by rfl, rfl⟩) (by assumption) ?_
    try go_frame
    refine tk (oi := ⟨_, _, _, _, _, _⟩) (v := undef) 23 rfl (by kernel_rfl) (fun _ _ _ h => h) (.inr ⟨by rfl, rfl⟩) (by assumption) ?_
    try go_frame
    refine tk (oi := ⟨_, _, _, _, _, _⟩) (v := undef) 24 rfl (by kernel_rfl) (fun _ _ _ h => h) (.inr ⟨by rfl, rfl⟩) (by assumption) ?_
    try go_frame
    refine tk (oi := ⟨_, _, _, _, _, _⟩) (v := undef) 25 rfl (by kernel_rfl) (fun _ _ _ h => h) (.inr ⟨by rfl, rfl⟩) (by assumption) ?_
    try go_frame
    refine tk (oi := ⟨_, _, _, _, _, _⟩) (v := undef) 26 rfl (by kernel_rfl) (fun _ _ _ h => h) (.inr ⟨by rfl, rfl⟩) (by assumption) ?_
    try go_frame
    refine tk (oi := ⟨_, _, _, _, _, _⟩) (v := undef) 27 rfl (by kernel_rfl) (fun _ _ _ h => h) (.inr ⟨by rfl, rfl⟩) (by assumption) ?_
    try go_frame
    refine tk (oi := ⟨_, _, _, _, _, _⟩) (v := undef) 28 rfl (by kernel_rfl) (fun _ _ _ h => h) (.inr ⟨by rfl, rfl⟩) (by assumption) ?_
    try go_frame
    refine tk (oi := ⟨_, _, _, _, _, _⟩) (v := undef) 29 rfl (by kernel_rfl) (fun _ _ _ h => h) (.inr ⟨by rfl, rfl⟩) (by assumption) ?_
    try go_frame
    refine tk (oi := ⟨_, _, _, _, _, _⟩) (v := undef) 30 rfl (by kernel_rfl) (fun _ _ _ h => h) (.inr ⟨by rfl, rfl⟩) (by assumption) ?_
    try go_frame
    refine tk (oi := ⟨_, _, _, _, _, _⟩) (v := undef) 31 rfl (by kernel_rfl) (fun _ _ _ h => h) (.inr ⟨by rfl, rfl⟩) (by assumption) ?_
    try go_frame
    refine tk (oi := ⟨_, _, _, _, _, _⟩) (v := undef) 32 rfl (by kernel_rfl) (fun _ _ _ h => h) (.inr ⟨by rfl, rfl⟩) (by assumption) ?_
    try go_frame
    refine tk (oi := ⟨_, _, _, _, _, _⟩) (v := undef) 33 rfl (by kernel_rfl) (fun _ _ _ h => h) (.inr ⟨by rfl, rfl⟩) (by assumption) ?_
    try go_frame
    refine tk (oi := ⟨_, _, _, _, _, _⟩) (v := undef) 34 rfl (by kernel_rfl) (fun _ _ _ h => h) (.inr ⟨by rfl, rfl⟩) (by assumption) ?_
    try go_frame
    refine tk (oi := ⟨_, _, _, _, _, _⟩) (v := undef) 35 rfl (by kernel_rfl) (fun _ _ _ h => h) (.inr ⟨by rfl, rfl⟩) (by assumption) ?_
    try go_frame
    refine tk (oi := ⟨_, _, _, _, _, _⟩) (v := undef) 36 rfl (by kernel_rfl) (fun _ _ _ h => h) (.inr ⟨by rfl, rfl⟩) (by assumption) ?_
    try go_frame
    refine tk (oi := ⟨_, _, _, _, _, _⟩) (v := undef) 37 rfl (by kernel_rfl) (fun _ _ _ h => h) (.inr ⟨by rfl, rfl⟩) (by assumption) ?_
    try go_frame
    refine tk (oi := ⟨_, _, _, _, _, _⟩) (v := ?_) 38 rfl (by kernel_rfl) (fun _ _ _ h => h) (.inl ⟨by rfl, ?_⟩) (by assumption) ?_; rotate_left
    · (intro wS hSw; (try dsimp only at hSw); go_simp); all_goals with_reducible rfl
    try go_frame
    refine tk (oi := ⟨_, _, _, _, _, _⟩) (v := ?_) 39 rfl (by kernel_rfl) (fun _ _ _ h => h) (.inl ⟨by rfl, ?_⟩) (by assumption) ?_; rotate_left
    · (intro wS hSw; (try dsimp only at hSw); go_simp); all_goals with_reducible rfl
    try go_frame
    refine wpAnyH_done (by kernel_rfl) ?_ _
    clear hW1
    go_wp2_with fail
    go_ret
    exact ⟨by rw [← hv.out]; rfl, hbW.trans ((Below.refl _ W1).drew.mono (Nat.le_of_lt hzW))⟩
  have n1 : 1 ≤ x.level := by omega
  by_cases c2 : p.level + 1 < x.level
  · skip
    have hv : Hid (69 = V) := by
      show _ = _
      rw [← hV']
      unfold oneE
      have : placeE (some p) k x = 69 := by unfold placeE; exact if_pos (.inr (.inl c2))
      rw [this]; rfl
    have d1 : decide (x.level < 1) = false := by simp; omega
    have w1 : IntKind.i64.wrap (x.level - 1) = x.level - 1 := IntWalk.i64_in _ (by omega)
    have d2 : decide (p.level < x.level - 1) = true := by simp; omega
    have wk : IntKind.i64.wrap ((k : Int) - 1) = (k : Int) - 1 := IntWalk.i64_in _ (by omega)
    have kn : ((k : Int) - 1).toNat = k - 1 := by omega
    clear hV'
    go_enter Try.func52, Try.ntmps52
    go_wp2_with fail
    rw [← hW1.out]
    refine wp_region_held_drew (S := fun w' => w'.cell? ⟨w.heap.size, 0, none⟩ = some (.int .i64 x.level) ∧ w'.cell? (ad.add ((k - 1) * 5)) = some (.int .i64 p.level) ∧ w'.cell? ⟨(ad.add ((k - 1) * 5)).block, (ad.add ((k - 1) * 5)).off + 1, none⟩ = some (.int .i64 p.kind)) (by kernel_rfl) hS.out (fun hHeld => ?_)
    refine tk (oi := ⟨_, _, _, _, _, _⟩) (v := ?_) 0 rfl (by kernel_rfl) (fun _ _ _ h => h) (.inl ⟨by rfl, ?_⟩) (by assumption) ?_; rotate_left
    · (intro wS hSw; (try dsimp only at hSw); go_simp); all_goals with_reducible rfl
    try go_frame
    refine tk (oi := ⟨_, _, _, _, _, _⟩) (v := ?_) 1 rfl (by kernel_rfl) (fun _ _ _ h => h) (.inl ⟨by rfl, ?_⟩) (by assumption) ?_; rotate_left
    · (intro wS hSw; (try dsimp only at hSw); go_simp); all_goals with_reducible rfl
    try go_frame
    refine tk (oi := ⟨_, _, _, _, _, _⟩) (v := ?_) 2 rfl (by kernel_rfl) (fun _ _ _ h => h) (.inl ⟨by rfl, ?_⟩) (by assumption) ?_; rotate_left
    · (intro wS hSw; (try dsimp only at hSw); go_simp); all_goals with_reducible rfl
    try go_frame
    refine tk (oi := ⟨_, _, _, _, _, _⟩) (v := ?_) 3 rfl (by kernel_rfl) (fun _ _ _ h => h) (.inl ⟨by rfl, ?_⟩) (by assumption) ?_; rotate_left
    · (intro wS hSw; (try dsimp only at hSw); go_simp); all_goals with_reducible rfl
    try go_frame
    refine tk (oi := ⟨_, _, _, _, _, _⟩) (v := ?_) 4 rfl (by kernel_rfl) (fun _ _ _ h => h) (.inl ⟨by rfl, ?_⟩) (by assumption) ?_; rotate_left
    · (intro wS hSw; (try dsimp only at hSw); go_simp); all_goals with_reducible rfl
    try go_frame
    refine tk (oi := ⟨_, _, _, _, _, _⟩) (v := ?_) 5 rfl (by kernel_rfl) (fun _ _ _ h => h) (.inl ⟨by rfl, ?_⟩) (by assumption) ?_; rotate_left
    · (intro wS hSw; (try dsimp only at hSw); go_simp); all_goals with_reducible rfl
    try go_frame
    refine tk (oi := ⟨_, _, _, _, _, _⟩) (v := ?_) 6 rfl (by kernel_rfl) (fun _ _ _ h => h) (.inl ⟨by rfl, ?_⟩) (by assumption) ?_; rotate_left
    · (intro wS hSw; (try dsimp only at hSw); go_simp); all_goals with_reducible rfl
    try go_frame
    refine tk (oi := ⟨_, _, _, _, _, _⟩) (v := ?_) 7 rfl (by kernel_rfl) (fun _ _ _ h => h) (.inl ⟨by rfl, ?_⟩) (by assumption) ?_; rotate_left
    · (intro wS hSw; (try dsimp only at hSw); go_simp); all_goals with_reducible rfl
    try go_frame
    refine tk (oi := ⟨_, _, _, _, _, _⟩) (v := ?_) 8 rfl (by kernel_rfl) (fun _ _ _ h => h) (.inl ⟨by rfl, ?_⟩) (by assumption) ?_; rotate_left
    · (intro wS hSw; (try dsimp only at hSw); go_simp); all_goals with_reducible rfl
    try go_frame
    refine tk (oi := ⟨_, _, _, _, _, _⟩) (v := ?_) 9 rfl (by kernel_rfl) (fun _ _ _ h => h) (.inl ⟨by rfl, ?_⟩) (by assumption) ?_; rotate_left
    · (intro wS hSw; (try dsimp only at hSw); go_simp); all_goals with_reducible rfl
    try go_frame
    refine tk (oi := ⟨_, _, _, _, _, _⟩) (v := ?_) 10 rfl (by kernel_rfl) (fun _ _ _ h => h) (.inl ⟨by rfl, ?_⟩) (by assumption) ?_; rotate_left
    · (intro wS hSw; (try dsimp only at hSw); go_simp); all_goals with_reducible rfl
    try go_frame
    refine tk (oi := ⟨_, _, _, _, _, _⟩) (v := ?_) 11 rfl (by kernel_rfl) (fun _ _ _ h => h) (.inl ⟨by rfl, ?_⟩) (by assumption) ?_; rotate_left
    · (intro wS hSw; (try dsimp only at hSw); go_simp); all_goals with_reducible rfl
    try go_frame
    refine tk (oi := ⟨_, _, _, _, _, _⟩) (v := ?_) 12 rfl (by kernel_rfl) (fun _ _ _ h => h) (.inl ⟨by rfl, ?_⟩) (by assumption) ?_; rotate_left
    · (intro wS hSw; (try dsimp only at hSw); go_simp); all_goals with_reducible rfl
    try go_frame
    refine tk (oi := ⟨_, _, _, _, _, _⟩) (v := ?_) 13 rfl (by kernel_rfl) (fun _ _ _ h => h) (.inl ⟨by rfl, ?_⟩) (by assumption) ?_; rotate_left
    · (intro wS hSw; (try dsimp only at hSw); go_simp); all_goals with_reducible rfl
    try go_frame
    refine tk (oi := ⟨_, _, _, _, _, _⟩) (v := ?_) 14 rfl (by kernel_rfl) (fun _ _ _ h => h) (.inl ⟨by rfl, ?_⟩) (by assumption) ?_; rotate_left
    · (intro wS hSw; (try dsimp only at hSw); go_simp); all_goals with_reducible rfl
    try go_frame
    refine tk (oi := ⟨_, _, _, _, _, _⟩) (v := ?_) 15 rfl (by kernel_rfl) (fun _ _ _ h => h) (.inl ⟨by rfl, ?_⟩) (by assumption) ?_; rotate_left
    · (intro wS hSw; (try dsimp only at hSw); go_simp); all_goals with_reducible rfl
    try go_frame
    refine tk (oi := ⟨_, _, _, _, _, _⟩) (v := ?_) 16 rfl (by kernel_rfl) (fun _ _ _ h => h) (.inl ⟨by rfl, ?_⟩) (by assumption) ?_; rotate_left
    · (intro wS hSw; (try dsimp only at hSw); go_simp); all_goals with_reducible rfl
    try go_frame
    refine tk (oi := ⟨_, _, _, _, _, _⟩) (v := ?_) 17 rfl (by kernel_rfl) (fun _ _ _ h => h) (.inl ⟨by rfl, ?_⟩) (by assumption) ?_; rotate_left
    · (intro wS hSw; (try dsimp only at hSw); go_simp); all_goals with_reducible rfl
    try go_frame
    refine tk (oi := ⟨_, _, _, _, _, _⟩) (v := ?_) 18 rfl (by kernel_rfl) (fun _ _ _ h => h) (.inl ⟨by rfl, ?_⟩) (by assumption) ?_; rotate_left
    · (intro wS hSw; (try dsimp only at hSw); go_simp); all_goals with_reducible rfl
    try go_frame
    refine tk (oi := ⟨_, _, _, _, _, _⟩) (v := undef) 19 rfl (by kernel_rfl) (fun _ _ _ h => h) (.inr ⟨by rfl, rfl⟩) (by assumption) ?_
    try go_frame
    refine tk (oi := ⟨_, _, _, _, _, _⟩) (v := undef) 20 rfl (by kernel_rfl) (fun _ _ _ h => h) (.inr ⟨by rfl, rfl⟩) (by assumption) ?_
    try go_frame
    refine tk (oi := ⟨_, _, _, _, _, _⟩) (v := undef) 21 rfl (by kernel_rfl) (fun _ _ _ h => h) (.inr ⟨by rfl, rfl⟩) (by assumption) ?_
    try go_frame
    refine tk (oi := ⟨_, _, _, _, _, _⟩) (v := undef) 22 rfl (by kernel_rfl) (fun _ _ _ h => h) (.inr ⟨by rfl, rfl⟩) (by assumption) ?_
    try go_frame
    refine tk (oi := ⟨_, _, _, _, _, _⟩) (v := undef) 23 rfl (by kernel_rfl) (fun _ _ _ h => h) (.inr ⟨by rfl, rfl⟩) (by assumption) ?_
    try go_frame
    refine tk (oi := ⟨_, _, _, _, _, _⟩) (v := undef) 24 rfl (by kernel_rfl) (fun _ _ _ h => h) (.inr ⟨by rfl, rfl⟩) (by assumption) ?_
    try go_frame
    refine tk (oi := ⟨_, _, _, _, _, _⟩) (v := undef) 25 rfl (by kernel_rfl) (fun _ _ _ h => h) (.inr ⟨by rfl, rfl⟩) (by assumption) ?_
    try go_frame
    refine tk (oi := ⟨_, _, _, _, _, _⟩) (v := undef) 26 rfl (by kernel_rfl) (fun _ _ _ h => h) (.inr ⟨by rfl, rfl⟩) (by assumption) ?_
    try go_frame
    refine tk (oi := ⟨_, _, _, _, _, _⟩) (v := undef) 27 rfl (by kernel_rfl) (fun _ _ _ h => h) (.inr ⟨by rfl, rfl⟩) (by assumption) ?_
    try go_frame
    refine tk (oi := ⟨_, _, _, _, _, _⟩) (v := undef) 28 rfl (by kernel_rfl) (fun _ _ _ h => h) (.inr ⟨by rfl, rfl⟩) (by assumption) ?_
    try go_frame
    refine tk (oi := ⟨_, _, _, _, _, _⟩) (v := undef) 29 rfl (by kernel_rfl) (fun _ _ _ h => h) (.inr ⟨by rfl, rfl⟩) (by assumption) ?_
    try go_frame
    refine tk (oi := ⟨_, _, _, _, _, _⟩) (v := undef) 30 rfl (by kernel_rfl) (fun _ _ _ h => h) (.inr ⟨by rfl, rfl⟩) (by assumption) ?_
    try go_frame
    refine tk (oi := ⟨_, _, _, _, _, _⟩) (v := undef) 31 rfl (by kernel_rfl) (fun _ _ _ h => h) (.inr ⟨by rfl, rfl⟩) (by assumption) ?_
    try go_frame
    refine tk (oi := ⟨_, _, _, _, _, _⟩) (v := undef) 32 rfl (by kernel_rfl) (fun _ _ _ h => h) (.inr ⟨by rfl, rfl⟩) (by assumption) ?_
    try go_frame
    refine tk (oi := ⟨_, _, _, _, _, _⟩) (v := undef) 33 rfl (by kernel_rfl) (fun _ _ _ h => h) (.inr ⟨by rfl, rfl⟩) (by assumption) ?_
    try go_frame
    refine tk (oi := ⟨_, _, _, _, _, _⟩) (v := undef) 34 rfl (by kernel_rfl) (fun _ _ _ h => h) (.inr ⟨by rfl, rfl⟩) (by assumption) ?_
    try go_frame
    refine tk (oi := ⟨_, _, _, _, _, _⟩) (v := undef) 35 rfl (by kernel_rfl) (fun _ _ _ h => h) (.inr ⟨by rfl, rfl⟩) (by assumption) ?_
    try go_frame
    refine tk (oi := ⟨_, _, _, _, _, _⟩) (v := undef) 36 rfl (by kernel_rfl) (fun _ _ _ h => h) (.inr ⟨by rfl, rfl⟩) (by assumption) ?_
    try go_frame
    refine tk (oi := ⟨_, _, _, _, _, _⟩) (v := undef) 37 rfl (by kernel_rfl) (fun _ _ _ h => h) (.inr ⟨by rfl, rfl⟩) (by assumption) ?_
    try go_frame
    refine tk (oi := ⟨_, _, _, _, _, _⟩) (v := ?_) 38 rfl (by kernel_rfl) (fun _ _ _ h => h) (.inl ⟨by rfl, ?_⟩) (by assumption) ?_; rotate_left
    · (intro wS hSw; (try dsimp only at hSw); go_simp); all_goals with_reducible rfl
    try go_frame
    refine tk (oi := ⟨_, _, _, _, _, _⟩) (v := ?_) 39 rfl (by kernel_rfl) (fun _ _ _ h => h) (.inl ⟨by rfl, ?_⟩) (by assumption) ?_; rotate_left
    · (intro wS hSw; (try dsimp only at hSw); go_simp); all_goals with_reducible rfl
    try go_frame
    refine wpAnyH_done (by kernel_rfl) ?_ _
    clear hW1
    go_wp2_with fail
    go_ret
    exact ⟨by rw [← hv.out]; rfl, hbW.trans ((Below.refl _ W1).drew.mono (Nat.le_of_lt hzW))⟩
  by_cases c3 : p.level < x.level
  · by_cases c4 : p.kind = 2
    · skip
      have hv : Hid (69 = V) := by
        show _ = _
        rw [← hV']
        unfold oneE
        have : placeE (some p) k x = 69 := by unfold placeE; exact if_pos (.inr (.inr ⟨c3, c4⟩))
        rw [this]; rfl
      have d1 : decide (x.level < 1) = false := by simp; omega
      have w1 : IntKind.i64.wrap (x.level - 1) = x.level - 1 := IntWalk.i64_in _ (by omega)
      have d2 : decide (p.level < x.level - 1) = false := by simp; omega
      have d3 : (x.level - 1 == p.level) = true := by simp; omega
      have d4 : (p.kind == 2) = true := by simp [c4]
      have wk : IntKind.i64.wrap ((k : Int) - 1) = (k : Int) - 1 := IntWalk.i64_in _ (by omega)
      have kn : ((k : Int) - 1).toNat = k - 1 := by omega
      clear hV'
      go_enter Try.func52, Try.ntmps52
      go_wp2_with fail
      rw [← hW1.out]
      refine wp_region_held_drew (S := fun w' => w'.cell? ⟨w.heap.size, 0, none⟩ = some (.int .i64 x.level) ∧ w'.cell? (ad.add ((k - 1) * 5)) = some (.int .i64 p.level) ∧ w'.cell? ⟨(ad.add ((k - 1) * 5)).block, (ad.add ((k - 1) * 5)).off + 1, none⟩ = some (.int .i64 p.kind)) (by kernel_rfl) hS.out (fun hHeld => ?_)
      refine tk (oi := ⟨_, _, _, _, _, _⟩) (v := ?_) 0 rfl (by kernel_rfl) (fun _ _ _ h => h) (.inl ⟨by rfl, ?_⟩) (by assumption) ?_; rotate_left
      · (intro wS hSw; (try dsimp only at hSw); go_simp); all_goals with_reducible rfl
      try go_frame
      refine tk (oi := ⟨_, _, _, _, _, _⟩) (v := ?_) 1 rfl (by kernel_rfl) (fun _ _ _ h => h) (.inl ⟨by rfl, ?_⟩) (by assumption) ?_; rotate_left
      · (intro wS hSw; (try dsimp only at hSw); go_simp); all_goals with_reducible rfl
      try go_frame
      refine tk (oi := ⟨_, _, _, _, _, _⟩) (v := ?_) 2 rfl (by kernel_rfl) (fun _ _ _ h => h) (.inl ⟨by rfl, ?_⟩) (by assumption) ?_; rotate_left
      · (intro wS hSw; (try dsimp only at hSw); go_simp); all_goals with_reducible rfl
      try go_frame
      refine tk (oi := ⟨_, _, _, _, _, _⟩) (v := ?_) 3 rfl (by kernel_rfl) (fun _ _ _ h => h) (.inl ⟨by rfl, ?_⟩) (by assumption) ?_; rotate_left
      · (intro wS hSw; (try dsimp only at hSw); go_simp); all_goals with_reducible rfl
      try go_frame
      refine tk (oi := ⟨_, _, _, _, _, _⟩) (v := ?_) 4 rfl (by kernel_rfl) (fun _ _ _ h => h) (.inl ⟨by rfl, ?_⟩) (by assumption) ?_; rotate_left
      · (intro wS hSw; (try dsimp only at hSw); go_simp); all_goals with_reducible rfl
      try go_frame
      refine tk (oi := ⟨_, _, _, _, _, _⟩) (v := ?_) 5 rfl (by kernel_rfl) (fun _ _ _ h => h) (.inl ⟨by rfl, ?_⟩) (by assumption) ?_; rotate_left
      · (intro wS hSw; (try dsimp only at hSw); go_simp); all_goals with_reducible rfl
      try go_frame
      refine tk (oi := ⟨_, _, _, _, _, _⟩) (v := ?_) 6 rfl (by kernel_rfl) (fun _ _ _ h => h) (.inl ⟨by rfl, ?_⟩) (by assumption) ?_; rotate_left
      · (intro wS hSw; (try dsimp only at hSw); go_simp); all_goals with_reducible rfl
      try go_frame
      refine tk (oi := ⟨_, _, _, _, _, _⟩) (v := ?_) 7 rfl (by kernel_rfl) (fun _ _ _ h => h) (.inl ⟨by rfl, ?_⟩) (by assumption) ?_; rotate_left
      · (intro wS hSw; (try dsimp only at hSw); go_simp); all_goals with_reducible rfl
      try go_frame
      refine tk (oi := ⟨_, _, _, _, _, _⟩) (v := ?_) 8 rfl (by kernel_rfl) (fun _ _ _ h => h) (.inl ⟨by rfl, ?_⟩) (by assumption) ?_; rotate_left
      · (intro wS hSw; (try dsimp only at hSw); go_simp); all_goals with_reducible rfl
      try go_frame
      refine tk (oi := ⟨_, _, _, _, _, _⟩) (v := ?_) 9 rfl (by kernel_rfl) (fun _ _ _ h => h) (.inl ⟨by rfl, ?_⟩) (by assumption) ?_; rotate_left
      · (intro wS hSw; (try dsimp only at hSw); go_simp); all_goals with_reducible rfl
      try go_frame
      refine tk (oi := ⟨_, _, _, _, _, _⟩) (v := ?_) 10 rfl (by kernel_rfl) (fun _ _ _ h => h) (.inl ⟨by rfl, ?_⟩) (by assumption) ?_; rotate_left
      · (intro wS hSw; (try dsimp only at hSw); go_simp); all_goals with_reducible rfl
      try go_frame
      refine tk (oi := ⟨_, _, _, _, _, _⟩) (v := ?_) 11 rfl (by kernel_rfl) (fun _ _ _ h => h) (.inl ⟨by rfl, ?_⟩) (by assumption) ?_; rotate_left
      · (intro wS hSw; (try dsimp only at hSw); go_simp); all_goals with_reducible rfl
      try go_frame
      refine tk (oi := ⟨_, _, _, _, _, _⟩) (v := ?_) 12 rfl (by kernel_rfl) (fun _ _ _ h => h) (.inl ⟨by rfl, ?_⟩) (by assumption) ?_; rotate_left
      · (intro wS hSw; (try dsimp only at hSw); go_simp); all_goals with_reducible rfl
      try go_frame
      refine tk (oi := ⟨_, _, _, _, _, _⟩) (v := ?_) 13 rfl (by kernel_rfl) (fun _ _ _ h => h) (.inl ⟨by rfl, ?_⟩) (by assumption) ?_; rotate_left
      · (intro wS hSw; (try dsimp only at hSw); go_simp); all_goals with_reducible rfl
      try go_frame
      refine tk (oi := ⟨_, _, _, _, _, _⟩) (v := ?_) 14 rfl (by kernel_rfl) (fun _ _ _ h => h) (.inl ⟨by rfl, ?_⟩) (by assumption) ?_; rotate_left
      · (intro wS hSw; (try dsimp only at hSw); go_simp); all_goals with_reducible rfl
      try go_frame
      refine tk (oi := ⟨_, _, _, _, _, _⟩) (v := ?_) 15 rfl (by kernel_rfl) (fun _ _ _ h => h) (.inl ⟨by rfl, ?_⟩) (by assumption) ?_; rotate_left
      · (intro wS hSw; (try dsimp only at hSw); go_simp); all_goals with_reducible rfl
      try go_frame
      refine tk (oi := ⟨_, _, _, _, _, _⟩) (v := ?_) 16 rfl (by kernel_rfl) (fun _ _ _ h => h) (.inl ⟨by rfl, ?_⟩) (by assumption) ?_; rotate_left
      · (intro wS hSw; (try dsimp only at hSw); go_simp); all_goals with_reducible rfl
      try go_frame
      refine tk (oi := ⟨_, _, _, _, _, _⟩) (v := ?_) 17 rfl (by kernel_rfl) (fun _ _ _ h => h) (.inl ⟨by rfl, ?_⟩) (by assumption) ?_; rotate_left
      · (intro wS hSw; (try dsimp only at hSw); go_simp); all_goals with_reducible rfl
      try go_frame
      refine tk (oi := ⟨_, _, _, _, _, _⟩) (v := ?_) 18 rfl (by kernel_rfl) (fun _ _ _ h => h) (.inl ⟨by rfl, ?_⟩) (by assumption) ?_; rotate_left
      · (intro wS hSw; (try dsimp only at hSw); go_simp); all_goals with_reducible rfl
      try go_frame
      refine tk (oi := ⟨_, _, _, _, _, _⟩) (v := ?_) 19 rfl (by kernel_rfl) (fun _ _ _ h => h) (.inl ⟨by rfl, ?_⟩) (by assumption) ?_; rotate_left
      · (intro wS hSw; (try dsimp only at hSw); go_simp); all_goals with_reducible rfl
      try go_frame
      refine tk (oi := ⟨_, _, _, _, _, _⟩) (v := ?_) 20 rfl (by kernel_rfl) (fun _ _ _ h => h) (.inl ⟨by rfl, ?_⟩) (by assumption) ?_; rotate_left
      · (intro wS hSw; (try dsimp only at hSw); go_simp); all_goals with_reducible rfl
      try go_frame
      refine tk (oi := ⟨_, _, _, _, _, _⟩) (v := ?_) 21 rfl (by kernel_rfl) (fun _ _ _ h => h) (.inl ⟨by rfl, ?_⟩) (by assumption) ?_; rotate_left
      · (intro wS hSw; (try dsimp only at hSw); go_simp); all_goals with_reducible rfl
      try go_frame
      refine tk (oi := ⟨_, _, _, _, _, _⟩) (v := ?_) 22 rfl (by kernel_rfl) (fun _ _ _ h => h) (.inl ⟨by rfl, ?_⟩) (by assumption) ?_; rotate_left
      · (intro wS hSw; (try dsimp only at hSw); go_simp); all_goals with_reducible rfl
      try go_frame
      refine tk (oi := ⟨_, _, _, _, _, _⟩) (v := ?_) 23 rfl (by kernel_rfl) (fun _ _ _ h => h) (.inl ⟨by rfl, ?_⟩) (by assumption) ?_; rotate_left
      · (intro wS hSw; (try dsimp only at hSw); go_simp); all_goals with_reducible rfl
      try go_frame
      refine tk (oi := ⟨_, _, _, _, _, _⟩) (v := ?_) 24 rfl (by kernel_rfl) (fun _ _ _ h => h) (.inl ⟨by rfl, ?_⟩) (by assumption) ?_; rotate_left
      · (intro wS hSw; (try dsimp only at hSw); go_simp); all_goals with_reducible rfl
      try go_frame
      refine tk (oi := ⟨_, _, _, _, _, _⟩) (v := ?_) 25 rfl (by kernel_rfl) (fun _ _ _ h => h) (.inl ⟨by rfl, ?_⟩) (by assumption) ?_; rotate_left
      · (intro wS hSw; (try dsimp only at hSw); go_simp); all_goals with_reducible rfl
      try go_frame
      refine tk (oi := ⟨_, _, _, _, _, _⟩) (v := ?_) 26 rfl (by kernel_rfl) (fun _ _ _ h => h) (.inl ⟨by rfl, ?_⟩) (by assumption) ?_; rotate_left
      · (intro wS hSw; (try dsimp only at hSw); go_simp); all_goals with_reducible rfl
      try go_frame
      refine tk (oi := ⟨_, _, _, _, _, _⟩) (v := ?_) 27 rfl (by kernel_rfl) (fun _ _ _ h => h) (.inl ⟨by rfl, ?_⟩) (by assumption) ?_; rotate_left
      · (intro wS hSw; (try dsimp only at hSw); go_simp); all_goals with_reducible rfl
      try go_frame
      refine tk (oi := ⟨_, _, _, _, _, _⟩) (v := ?_) 28 rfl (by kernel_rfl) (fun _ _ _ h => h) (.inl ⟨by rfl, ?_⟩) (by assumption) ?_; rotate_left
      · (intro wS hSw; (try dsimp only at hSw); go_simp); all_goals with_reducible rfl
      try go_frame
      refine tk (oi := ⟨_, _, _, _, _, _⟩) (v := ?_) 29 rfl (by kernel_rfl) (fun _ _ _ h => h) (.inl ⟨by rfl, ?_⟩) (by assumption) ?_; rotate_left
      · (intro wS hSw; (try dsimp only at hSw); go_simp); all_goals with_reducible rfl
      try go_frame
      refine tk (oi := ⟨_, _, _, _, _, _⟩) (v := ?_) 30 rfl (by kernel_rfl) (fun _ _ _ h => h) (.inl ⟨by rfl, ?_⟩) (by assumption) ?_; rotate_left
      · (intro wS hSw; (try dsimp only at hSw); go_simp); all_goals with_reducible rfl
      try go_frame
      refine tk (oi := ⟨_, _, _, _, _, _⟩) (v := ?_) 31 rfl (by kernel_rfl) (fun _ _ _ h => h) (.inl ⟨by rfl, ?_⟩) (by assumption) ?_; rotate_left
      · (intro wS hSw; (try dsimp only at hSw); go_simp); all_goals with_reducible rfl
      try go_frame
      refine tk (oi := ⟨_, _, _, _, _, _⟩) (v := ?_) 32 rfl (by kernel_rfl) (fun _ _ _ h => h) (.inl ⟨by rfl, ?_⟩) (by assumption) ?_; rotate_left
      · (intro wS hSw; (try dsimp only at hSw); go_simp); all_goals with_reducible rfl
      try go_frame
      refine tk (oi := ⟨_, _, _, _, _, _⟩) (v := ?_) 33 rfl (by kernel_rfl) (fun _ _ _ h => h) (.inl ⟨by rfl, ?_⟩) (by assumption) ?_; rotate_left
      · (intro wS hSw; (try dsimp only at hSw); go_simp); all_goals with_reducible rfl
      try go_frame
      refine tk (oi := ⟨_, _, _, _, _, _⟩) (v := ?_) 34 rfl (by kernel_rfl) (fun _ _ _ h => h) (.inl ⟨by rfl, ?_⟩) (by assumption) ?_; rotate_left
      · (intro wS hSw; (try dsimp only at hSw); go_simp); all_goals with_reducible rfl
      try go_frame
      refine tk (oi := ⟨_, _, _, _, _, _⟩) (v := ?_) 35 rfl (by kernel_rfl) (fun _ _ _ h => h) (.inl ⟨by rfl, ?_⟩) (by assumption) ?_; rotate_left
      · (intro wS hSw; (try dsimp only at hSw); go_simp); all_goals with_reducible rfl
      try go_frame
      refine tk (oi := ⟨_, _, _, _, _, _⟩) (v := ?_) 36 rfl (by kernel_rfl) (fun _ _ _ h => h) (.inl ⟨by rfl, ?_⟩) (by assumption) ?_; rotate_left
      · (intro wS hSw; (try dsimp only at hSw); go_simp); all_goals with_reducible rfl
      try go_frame
      refine tk (oi := ⟨_, _, _, _, _, _⟩) (v := ?_) 37 rfl (by kernel_rfl) (fun _ _ _ h => h) (.inl ⟨by rfl, ?_⟩) (by assumption) ?_; rotate_left
      · (intro wS hSw; (try dsimp only at hSw); go_simp); all_goals with_reducible rfl
      try go_frame
      refine tk (oi := ⟨_, _, _, _, _, _⟩) (v := ?_) 38 rfl (by kernel_rfl) (fun _ _ _ h => h) (.inl ⟨by rfl, ?_⟩) (by assumption) ?_; rotate_left
      · (intro wS hSw; (try dsimp only at hSw); go_simp); all_goals with_reducible rfl
      try go_frame
      refine tk (oi := ⟨_, _, _, _, _, _⟩) (v := ?_) 39 rfl (by kernel_rfl) (fun _ _ _ h => h) (.inl ⟨by rfl, ?_⟩) (by assumption) ?_; rotate_left
      · (intro wS hSw; (try dsimp only at hSw); go_simp); all_goals with_reducible rfl
      try go_frame
      refine wpAnyH_done (by kernel_rfl) ?_ _
      clear hW1
      go_wp2_with fail
      go_ret
      exact ⟨by rw [← hv.out]; rfl, hbW.trans ((Below.refl _ W1).drew.mono (Nat.le_of_lt hzW))⟩
    · skip
      have hpl : placeE (some p) k x = (if 40 ≤ x.level then (42 : Int) else if 1000 ≤ k then 43 else 0) := by unfold placeE; exact if_neg (by omega)
      have hv' : Hid ((if (if 40 ≤ x.level then (42 : Int) else if 1000 ≤ k then 43 else 0) = 0 then partsE x else (if 40 ≤ x.level then (42 : Int) else if 1000 ≤ k then 43 else 0)) = V) := by show _ = _; rw [← hV']; unfold oneE; rw [hpl]
      clear hpl
      have d1 : decide (x.level < 1) = false := by simp; omega
      have w1 : IntKind.i64.wrap (x.level - 1) = x.level - 1 := IntWalk.i64_in _ (by omega)
      have d2 : decide (p.level < x.level - 1) = false := by simp; omega
      have d3 : (x.level - 1 == p.level) = true := by simp; omega
      have d4 : (p.kind == 2) = false := by simp [c4]
      have wk : IntKind.i64.wrap ((k : Int) - 1) = (k : Int) - 1 := IntWalk.i64_in _ (by omega)
      have kn : ((k : Int) - 1).toNat = k - 1 := by omega
      clear hV'
      go_enter Try.func52, Try.ntmps52
      go_wp2_with fail
      rw [← hW1.out]
      refine wp_region_held_drew (S := fun w' => w'.cell? ⟨w.heap.size, 0, none⟩ = some (.int .i64 x.level) ∧ w'.cell? (ad.add ((k - 1) * 5)) = some (.int .i64 p.level) ∧ w'.cell? ⟨(ad.add ((k - 1) * 5)).block, (ad.add ((k - 1) * 5)).off + 1, none⟩ = some (.int .i64 p.kind)) (by kernel_rfl) hS.out (fun hHeld => ?_)
      refine tk (oi := ⟨_, _, _, _, _, _⟩) (v := ?_) 0 rfl (by kernel_rfl) (fun _ _ _ h => h) (.inl ⟨by rfl, ?_⟩) (by assumption) ?_; rotate_left
      · (intro wS hSw; (try dsimp only at hSw); go_simp); all_goals with_reducible rfl
      try go_frame
      refine tk (oi := ⟨_, _, _, _, _, _⟩) (v := ?_) 1 rfl (by kernel_rfl) (fun _ _ _ h => h) (.inl ⟨by rfl, ?_⟩) (by assumption) ?_; rotate_left
      · (intro wS hSw; (try dsimp only at hSw); go_simp); all_goals with_reducible rfl
      try go_frame
      refine tk (oi := ⟨_, _, _, _, _, _⟩) (v := ?_) 2 rfl (by kernel_rfl) (fun _ _ _ h => h) (.inl ⟨by rfl, ?_⟩) (by assumption) ?_; rotate_left
      · (intro wS hSw; (try dsimp only at hSw); go_simp); all_goals with_reducible rfl
      try go_frame
      refine tk (oi := ⟨_, _, _, _, _, _⟩) (v := ?_) 3 rfl (by kernel_rfl) (fun _ _ _ h => h) (.inl ⟨by rfl, ?_⟩) (by assumption) ?_; rotate_left
      · (intro wS hSw; (try dsimp only at hSw); go_simp); all_goals with_reducible rfl
      try go_frame
      refine tk (oi := ⟨_, _, _, _, _, _⟩) (v := ?_) 4 rfl (by kernel_rfl) (fun _ _ _ h => h) (.inl ⟨by rfl, ?_⟩) (by assumption) ?_; rotate_left
      · (intro wS hSw; (try dsimp only at hSw); go_simp); all_goals with_reducible rfl
      try go_frame
      refine tk (oi := ⟨_, _, _, _, _, _⟩) (v := ?_) 5 rfl (by kernel_rfl) (fun _ _ _ h => h) (.inl ⟨by rfl, ?_⟩) (by assumption) ?_; rotate_left
      · (intro wS hSw; (try dsimp only at hSw); go_simp); all_goals with_reducible rfl
      try go_frame
      refine tk (oi := ⟨_, _, _, _, _, _⟩) (v := ?_) 6 rfl (by kernel_rfl) (fun _ _ _ h => h) (.inl ⟨by rfl, ?_⟩) (by assumption) ?_; rotate_left
      · (intro wS hSw; (try dsimp only at hSw); go_simp); all_goals with_reducible rfl
      try go_frame
      refine tk (oi := ⟨_, _, _, _, _, _⟩) (v := ?_) 7 rfl (by kernel_rfl) (fun _ _ _ h => h) (.inl ⟨by rfl, ?_⟩) (by assumption) ?_; rotate_left
      · (intro wS hSw; (try dsimp only at hSw); go_simp); all_goals with_reducible rfl
      try go_frame
      refine tk (oi := ⟨_, _, _, _, _, _⟩) (v := ?_) 8 rfl (by kernel_rfl) (fun _ _ _ h => h) (.inl ⟨by rfl, ?_⟩) (by assumption) ?_; rotate_left
      · (intro wS hSw; (try dsimp only at hSw); go_simp); all_goals with_reducible rfl
      try go_frame
      refine tk (oi := ⟨_, _, _, _, _, _⟩) (v := ?_) 9 rfl (by kernel_rfl) (fun _ _ _ h => h) (.inl ⟨by rfl, ?_⟩) (by assumption) ?_; rotate_left
      · (intro wS hSw; (try dsimp only at hSw); go_simp); all_goals with_reducible rfl
      try go_frame
      refine tk (oi := ⟨_, _, _, _, _, _⟩) (v := ?_) 10 rfl (by kernel_rfl) (fun _ _ _ h => h) (.inl ⟨by rfl, ?_⟩) (by assumption) ?_; rotate_left
      · (intro wS hSw; (try dsimp only at hSw); go_simp); all_goals with_reducible rfl
      try go_frame
      refine tk (oi := ⟨_, _, _, _, _, _⟩) (v := ?_) 11 rfl (by kernel_rfl) (fun _ _ _ h => h) (.inl ⟨by rfl, ?_⟩) (by assumption) ?_; rotate_left
      · (intro wS hSw; (try dsimp only at hSw); go_simp); all_goals with_reducible rfl
      try go_frame
      refine tk (oi := ⟨_, _, _, _, _, _⟩) (v := ?_) 12 rfl (by kernel_rfl) (fun _ _ _ h => h) (.inl ⟨by rfl, ?_⟩) (by assumption) ?_; rotate_left
      · (intro wS hSw; (try dsimp only at hSw); go_simp); all_goals with_reducible rfl
      try go_frame
      refine tk (oi := ⟨_, _, _, _, _, _⟩) (v := ?_) 13 rfl (by kernel_rfl) (fun _ _ _ h => h) (.inl ⟨by rfl, ?_⟩) (by assumption) ?_; rotate_left
      · (intro wS hSw; (try dsimp only at hSw); go_simp); all_goals with_reducible rfl
      try go_frame
      refine tk (oi := ⟨_, _, _, _, _, _⟩) (v := ?_) 14 rfl (by kernel_rfl) (fun _ _ _ h => h) (.inl ⟨by rfl, ?_⟩) (by assumption) ?_; rotate_left
      · (intro wS hSw; (try dsimp only at hSw); go_simp); all_goals with_reducible rfl
      try go_frame
      refine tk (oi := ⟨_, _, _, _, _, _⟩) (v := ?_) 15 rfl (by kernel_rfl) (fun _ _ _ h => h) (.inl ⟨by rfl, ?_⟩) (by assumption) ?_; rotate_left
      · (intro wS hSw; (try dsimp only at hSw); go_simp); all_goals with_reducible rfl
      try go_frame
      refine tk (oi := ⟨_, _, _, _, _, _⟩) (v := ?_) 16 rfl (by kernel_rfl) (fun _ _ _ h => h) (.inl ⟨by rfl, ?_⟩) (by assumption) ?_; rotate_left
      · (intro wS hSw; (try dsimp only at hSw); go_simp); all_goals with_reducible rfl
      try go_frame
      refine tk (oi := ⟨_, _, _, _, _, _⟩) (v := ?_) 17 rfl (by kernel_rfl) (fun _ _ _ h => h) (.inl ⟨by rfl, ?_⟩) (by assumption) ?_; rotate_left
      · (intro wS hSw; (try dsimp only at hSw); go_simp); all_goals with_reducible rfl
      try go_frame
      refine tk (oi := ⟨_, _, _, _, _, _⟩) (v := ?_) 18 rfl (by kernel_rfl) (fun _ _ _ h => h) (.inl ⟨by rfl, ?_⟩) (by assumption) ?_; rotate_left
      · (intro wS hSw; (try dsimp only at hSw); go_simp); all_goals with_reducible rfl
      try go_frame
      refine tk (oi := ⟨_, _, _, _, _, _⟩) (v := ?_) 19 rfl (by kernel_rfl) (fun _ _ _ h => h) (.inl ⟨by rfl, ?_⟩) (by assumption) ?_; rotate_left
      · (intro wS hSw; (try dsimp only at hSw); go_simp); all_goals with_reducible rfl
      try go_frame
      refine tk (oi := ⟨_, _, _, _, _, _⟩) (v := ?_) 20 rfl (by kernel_rfl) (fun _ _ _ h => h) (.inl ⟨by rfl, ?_⟩) (by assumption) ?_; rotate_left
      · (intro wS hSw; (try dsimp only at hSw); go_simp); all_goals with_reducible rfl
      try go_frame
      refine tk (oi := ⟨_, _, _, _, _, _⟩) (v := ?_) 21 rfl (by kernel_rfl) (fun _ _ _ h => h) (.inl ⟨by rfl, ?_⟩) (by assumption) ?_; rotate_left
      · (intro wS hSw; (try dsimp only at hSw); go_simp); all_goals with_reducible rfl
      try go_frame
      refine tk (oi := ⟨_, _, _, _, _, _⟩) (v := ?_) 22 rfl (by kernel_rfl) (fun _ _ _ h => h) (.inl ⟨by rfl, ?_⟩) (by assumption) ?_; rotate_left
      · (intro wS hSw; (try dsimp only at hSw); go_simp); all_goals with_reducible rfl
      try go_frame
      refine tk (oi := ⟨_, _, _, _, _, _⟩) (v := ?_) 23 rfl (by kernel_rfl) (fun _ _ _ h => h) (.inl ⟨by rfl, ?_⟩) (by assumption) ?_; rotate_left
      · (intro wS hSw; (try dsimp only at hSw); go_simp); all_goals with_reducible rfl
      try go_frame
      refine tk (oi := ⟨_, _, _, _, _, _⟩) (v := ?_) 24 rfl (by kernel_rfl) (fun _ _ _ h => h) (.inl ⟨by rfl, ?_⟩) (by assumption) ?_; rotate_left
      · (intro wS hSw; (try dsimp only at hSw); go_simp); all_goals with_reducible rfl
      try go_frame
      refine tk (oi := ⟨_, _, _, _, _, _⟩) (v := ?_) 25 rfl (by kernel_rfl) (fun _ _ _ h => h) (.inl ⟨by rfl, ?_⟩) (by assumption) ?_; rotate_left
      · (intro wS hSw; (try dsimp only at hSw); go_simp); all_goals with_reducible rfl
      try go_frame
      refine tk (oi := ⟨_, _, _, _, _, _⟩) (v := ?_) 26 rfl (by kernel_rfl) (fun _ _ _ h => h) (.inl ⟨by rfl, ?_⟩) (by assumption) ?_; rotate_left
      · (intro wS hSw; (try dsimp only at hSw); go_simp); all_goals with_reducible rfl
      try go_frame
      refine tk (oi := ⟨_, _, _, _, _, _⟩) (v := ?_) 27 rfl (by kernel_rfl) (fun _ _ _ h => h) (.inl ⟨by rfl, ?_⟩) (by assumption) ?_; rotate_left
      · (intro wS hSw; (try dsimp only at hSw); go_simp); all_goals with_reducible rfl
      try go_frame
      refine tk (oi := ⟨_, _, _, _, _, _⟩) (v := ?_) 28 rfl (by kernel_rfl) (fun _ _ _ h => h) (.inl ⟨by rfl, ?_⟩) (by assumption) ?_; rotate_left
      · (intro wS hSw; (try dsimp only at hSw); go_simp); all_goals with_reducible rfl
      try go_frame
      refine tk (oi := ⟨_, _, _, _, _, _⟩) (v := ?_) 29 rfl (by kernel_rfl) (fun _ _ _ h => h) (.inl ⟨by rfl, ?_⟩) (by assumption) ?_; rotate_left
      · (intro wS hSw; (try dsimp only at hSw); go_simp); all_goals with_reducible rfl
      try go_frame
      refine tk (oi := ⟨_, _, _, _, _, _⟩) (v := ?_) 30 rfl (by kernel_rfl) (fun _ _ _ h => h) (.inl ⟨by rfl, ?_⟩) (by assumption) ?_; rotate_left
      · (intro wS hSw; (try dsimp only at hSw); go_simp); all_goals with_reducible rfl
      try go_frame
      refine tk (oi := ⟨_, _, _, _, _, _⟩) (v := ?_) 31 rfl (by kernel_rfl) (fun _ _ _ h => h) (.inl ⟨by rfl, ?_⟩) (by assumption) ?_; rotate_left
      · (intro wS hSw; (try dsimp only at hSw); go_simp); all_goals with_reducible rfl
      try go_frame
      refine tk (oi := ⟨_, _, _, _, _, _⟩) (v := ?_) 32 rfl (by kernel_rfl) (fun _ _ _ h => h) (.inl ⟨by rfl, ?_⟩) (by assumption) ?_; rotate_left
      · (intro wS hSw; (try dsimp only at hSw); go_simp); all_goals with_reducible rfl
      try go_frame
      refine tk (oi := ⟨_, _, _, _, _, _⟩) (v := ?_) 33 rfl (by kernel_rfl) (fun _ _ _ h => h) (.inl ⟨by rfl, ?_⟩) (by assumption) ?_; rotate_left
      · (intro wS hSw; (try dsimp only at hSw); go_simp); all_goals with_reducible rfl
      try go_frame
      refine tk (oi := ⟨_, _, _, _, _, _⟩) (v := ?_) 34 rfl (by kernel_rfl) (fun _ _ _ h => h) (.inl ⟨by rfl, ?_⟩) (by assumption) ?_; rotate_left
      · (intro wS hSw; (try dsimp only at hSw); go_simp); all_goals with_reducible rfl
      try go_frame
      refine tk (oi := ⟨_, _, _, _, _, _⟩) (v := ?_) 35 rfl (by kernel_rfl) (fun _ _ _ h => h) (.inl ⟨by rfl, ?_⟩) (by assumption) ?_; rotate_left
      · (intro wS hSw; (try dsimp only at hSw); go_simp); all_goals with_reducible rfl
      try go_frame
      refine tk (oi := ⟨_, _, _, _, _, _⟩) (v := ?_) 36 rfl (by kernel_rfl) (fun _ _ _ h => h) (.inl ⟨by rfl, ?_⟩) (by assumption) ?_; rotate_left
      · (intro wS hSw; (try dsimp only at hSw); go_simp); all_goals with_reducible rfl
      try go_frame
      refine tk (oi := ⟨_, _, _, _, _, _⟩) (v := ?_) 37 rfl (by kernel_rfl) (fun _ _ _ h => h) (.inl ⟨by rfl, ?_⟩) (by assumption) ?_; rotate_left
      · (intro wS hSw; (try dsimp only at hSw); go_simp); all_goals with_reducible rfl
      try go_frame
      refine tk (oi := ⟨_, _, _, _, _, _⟩) (v := ?_) 38 rfl (by kernel_rfl) (fun _ _ _ h => h) (.inl ⟨by rfl, ?_⟩) (by assumption) ?_; rotate_left
      · (intro wS hSw; (try dsimp only at hSw); go_simp); all_goals with_reducible rfl
      try go_frame
      refine tk (oi := ⟨_, _, _, _, _, _⟩) (v := ?_) 39 rfl (by kernel_rfl) (fun _ _ _ h => h) (.inl ⟨by rfl, ?_⟩) (by assumption) ?_; rotate_left
      · (intro wS hSw; (try dsimp only at hSw); go_simp); all_goals with_reducible rfl
      try go_frame
      refine wpAnyH_done (by kernel_rfl) ?_ _
      clear hW1 wk kn w1 t0 t1 t2 d1 d2 d3
      have hbD : Below W1.heap.size W1 W1.drew := (Below.refl _ W1).drew
      obtain ⟨e0, e1, e2, e3, e4⟩ := hcs.out _ hbD
      have hbD' := hbW.trans (hbD.mono (Nat.le_of_lt hzW))
      by_cases l40 : 40 ≤ x.level
      · have hv : Hid (42 = V) := by show _ = _; rw [← hv'.out, if_pos l40]; rfl
        clear hv'
        go_wp2_with fail
        go_ret
        exact ⟨by rw [← hv.out]; rfl, hbD'⟩
      by_cases k1000 : 1000 ≤ k
      · have hv : Hid (43 = V) := by show _ = _; rw [← hv'.out, if_neg l40, if_pos k1000]; rfl
        clear hv'
        have k1' : (1000 : Int) ≤ k := by omega
        go_wp2_with fail
        go_ret
        exact ⟨by rw [← hv.out]; rfl, hbD'⟩
      have hv : Hid (partsE x = V) := by show _ = _; rw [← hv'.out, if_neg l40, if_neg k1000, if_pos rfl]
      clear hv'
      have k1' : (k : Int) < 1000 := by omega
      have l40' : x.level < 40 := by omega
      go_wp2_with fail
      refine (RParts_any x A' c' _ ?_ HS.out V hv).mono ?_
      · exact (HAT.out.below hbD').more hbD'.size
      rintro e w3 ⟨rfl, hb3⟩
      go_wp2_with fail
      go_ret
      exact ⟨rfl, hbD'.trans (hb3.mono hbD'.size)⟩
  · skip
    have hpl : placeE (some p) k x = (if 40 ≤ x.level then (42 : Int) else if 1000 ≤ k then 43 else 0) := by unfold placeE; exact if_neg (by omega)
    have hv' : Hid ((if (if 40 ≤ x.level then (42 : Int) else if 1000 ≤ k then 43 else 0) = 0 then partsE x else (if 40 ≤ x.level then (42 : Int) else if 1000 ≤ k then 43 else 0)) = V) := by show _ = _; rw [← hV']; unfold oneE; rw [hpl]
    clear hpl
    have d1 : decide (x.level < 1) = false := by simp; omega
    have w1 : IntKind.i64.wrap (x.level - 1) = x.level - 1 := IntWalk.i64_in _ (by omega)
    have d2 : decide (p.level < x.level - 1) = false := by simp; omega
    have d3 : (x.level - 1 == p.level) = false := by simp; omega
    have wk : IntKind.i64.wrap ((k : Int) - 1) = (k : Int) - 1 := IntWalk.i64_in _ (by omega)
    have kn : ((k : Int) - 1).toNat = k - 1 := by omega
    clear hV'
    go_enter Try.func52, Try.ntmps52
    go_wp2_with fail
    rw [← hW1.out]
    refine wp_region_held_drew (S := fun w' => w'.cell? ⟨w.heap.size, 0, none⟩ = some (.int .i64 x.level) ∧ w'.cell? (ad.add ((k - 1) * 5)) = some (.int .i64 p.level) ∧ w'.cell? ⟨(ad.add ((k - 1) * 5)).block, (ad.add ((k - 1) * 5)).off + 1, none⟩ = some (.int .i64 p.kind)) (by kernel_rfl) hS.out (fun hHeld => ?_)
    refine tk (oi := ⟨_, _, _, _, _, _⟩) (v := ?_) 0 rfl (by kernel_rfl) (fun _ _ _ h => h) (.inl ⟨by rfl, ?_⟩) (by assumption) ?_; rotate_left
    · (intro wS hSw; (try dsimp only at hSw); go_simp); all_goals with_reducible rfl
    try go_frame
    refine tk (oi := ⟨_, _, _, _, _, _⟩) (v := ?_) 1 rfl (by kernel_rfl) (fun _ _ _ h => h) (.inl ⟨by rfl, ?_⟩) (by assumption) ?_; rotate_left
    · (intro wS hSw; (try dsimp only at hSw); go_simp); all_goals with_reducible rfl
    try go_frame
    refine tk (oi := ⟨_, _, _, _, _, _⟩) (v := ?_) 2 rfl (by kernel_rfl) (fun _ _ _ h => h) (.inl ⟨by rfl, ?_⟩) (by assumption) ?_; rotate_left
    · (intro wS hSw; (try dsimp only at hSw); go_simp); all_goals with_reducible rfl
    try go_frame
    refine tk (oi := ⟨_, _, _, _, _, _⟩) (v := ?_) 3 rfl (by kernel_rfl) (fun _ _ _ h => h) (.inl ⟨by rfl, ?_⟩) (by assumption) ?_; rotate_left
    · (intro wS hSw; (try dsimp only at hSw); go_simp); all_goals with_reducible rfl
    try go_frame
    refine tk (oi := ⟨_, _, _, _, _, _⟩) (v := ?_) 4 rfl (by kernel_rfl) (fun _ _ _ h => h) (.inl ⟨by rfl, ?_⟩) (by assumption) ?_; rotate_left
    · (intro wS hSw; (try dsimp only at hSw); go_simp); all_goals with_reducible rfl
    try go_frame
    refine tk (oi := ⟨_, _, _, _, _, _⟩) (v := ?_) 5 rfl (by kernel_rfl) (fun _ _ _ h => h) (.inl ⟨by rfl, ?_⟩) (by assumption) ?_; rotate_left
    · (intro wS hSw; (try dsimp only at hSw); go_simp); all_goals with_reducible rfl
    try go_frame
    refine tk (oi := ⟨_, _, _, _, _, _⟩) (v := ?_) 6 rfl (by kernel_rfl) (fun _ _ _ h => h) (.inl ⟨by rfl, ?_⟩) (by assumption) ?_; rotate_left
    · (intro wS hSw; (try dsimp only at hSw); go_simp); all_goals with_reducible rfl
    try go_frame
    refine tk (oi := ⟨_, _, _, _, _, _⟩) (v := ?_) 7 rfl (by kernel_rfl) (fun _ _ _ h => h) (.inl ⟨by rfl, ?_⟩) (by assumption) ?_; rotate_left
    · (intro wS hSw; (try dsimp only at hSw); go_simp); all_goals with_reducible rfl
    try go_frame
    refine tk (oi := ⟨_, _, _, _, _, _⟩) (v := ?_) 8 rfl (by kernel_rfl) (fun _ _ _ h => h) (.inl ⟨by rfl, ?_⟩) (by assumption) ?_; rotate_left
    · (intro wS hSw; (try dsimp only at hSw); go_simp); all_goals with_reducible rfl
    try go_frame
    refine tk (oi := ⟨_, _, _, _, _, _⟩) (v := ?_) 9 rfl (by kernel_rfl) (fun _ _ _ h => h) (.inl ⟨by rfl, ?_⟩) (by assumption) ?_; rotate_left
    · (intro wS hSw; (try dsimp only at hSw); go_simp); all_goals with_reducible rfl
    try go_frame
    refine tk (oi := ⟨_, _, _, _, _, _⟩) (v := ?_) 10 rfl (by kernel_rfl) (fun _ _ _ h => h) (.inl ⟨by rfl, ?_⟩) (by assumption) ?_; rotate_left
    · (intro wS hSw; (try dsimp only at hSw); go_simp); all_goals with_reducible rfl
    try go_frame
    refine tk (oi := ⟨_, _, _, _, _, _⟩) (v := ?_) 11 rfl (by kernel_rfl) (fun _ _ _ h => h) (.inl ⟨by rfl, ?_⟩) (by assumption) ?_; rotate_left
    · (intro wS hSw; (try dsimp only at hSw); go_simp); all_goals with_reducible rfl
    try go_frame
    refine tk (oi := ⟨_, _, _, _, _, _⟩) (v := ?_) 12 rfl (by kernel_rfl) (fun _ _ _ h => h) (.inl ⟨by rfl, ?_⟩) (by assumption) ?_; rotate_left
    · (intro wS hSw; (try dsimp only at hSw); go_simp); all_goals with_reducible rfl
    try go_frame
    refine tk (oi := ⟨_, _, _, _, _, _⟩) (v := ?_) 13 rfl (by kernel_rfl) (fun _ _ _ h => h) (.inl ⟨by rfl, ?_⟩) (by assumption) ?_; rotate_left
    · (intro wS hSw; (try dsimp only at hSw); go_simp); all_goals with_reducible rfl
    try go_frame
    refine tk (oi := ⟨_, _, _, _, _, _⟩) (v := ?_) 14 rfl (by kernel_rfl) (fun _ _ _ h => h) (.inl ⟨by rfl, ?_⟩) (by assumption) ?_; rotate_left
    · (intro wS hSw; (try dsimp only at hSw); go_simp); all_goals with_reducible rfl
    try go_frame
    refine tk (oi := ⟨_, _, _, _, _, _⟩) (v := ?_) 15 rfl (by kernel_rfl) (fun _ _ _ h => h) (.inl ⟨by rfl, ?_⟩) (by assumption) ?_; rotate_left
    · (intro wS hSw; (try dsimp only at hSw); go_simp); all_goals with_reducible rfl
    try go_frame
    refine tk (oi := ⟨_, _, _, _, _, _⟩) (v := ?_) 16 rfl (by kernel_rfl) (fun _ _ _ h => h) (.inl ⟨by rfl, ?_⟩) (by assumption) ?_; rotate_left
    · (intro wS hSw; (try dsimp only at hSw); go_simp); all_goals with_reducible rfl
    try go_frame
    refine tk (oi := ⟨_, _, _, _, _, _⟩) (v := ?_) 17 rfl (by kernel_rfl) (fun _ _ _ h => h) (.inl ⟨by rfl, ?_⟩) (by assumption) ?_; rotate_left
    · (intro wS hSw; (try dsimp only at hSw); go_simp); all_goals with_reducible rfl
    try go_frame
    refine tk (oi := ⟨_, _, _, _, _, _⟩) (v := ?_) 18 rfl (by kernel_rfl) (fun _ _ _ h => h) (.inl ⟨by rfl, ?_⟩) (by assumption) ?_; rotate_left
    · (intro wS hSw; (try dsimp only at hSw); go_simp); all_goals with_reducible rfl
    try go_frame
    refine tk (oi := ⟨_, _, _, _, _, _⟩) (v := ?_) 19 rfl (by kernel_rfl) (fun _ _ _ h => h) (.inl ⟨by rfl, ?_⟩) (by assumption) ?_; rotate_left
    · (intro wS hSw; (try dsimp only at hSw); go_simp); all_goals with_reducible rfl
    try go_frame
    refine tk (oi := ⟨_, _, _, _, _, _⟩) (v := ?_) 20 rfl (by kernel_rfl) (fun _ _ _ h => h) (.inl ⟨by rfl, ?_⟩) (by assumption) ?_; rotate_left
    · (intro wS hSw; (try dsimp only at hSw); go_simp); all_goals with_reducible rfl
    try go_frame
    refine tk (oi := ⟨_, _, _, _, _, _⟩) (v := ?_) 21 rfl (by kernel_rfl) (fun _ _ _ h => h) (.inl ⟨by rfl, ?_⟩) (by assumption) ?_; rotate_left
    · (intro wS hSw; (try dsimp only at hSw); go_simp); all_goals with_reducible rfl
    try go_frame
    refine tk (oi := ⟨_, _, _, _, _, _⟩) (v := ?_) 22 rfl (by kernel_rfl) (fun _ _ _ h => h) (.inl ⟨by rfl, ?_⟩) (by assumption) ?_; rotate_left
    · (intro wS hSw; (try dsimp only at hSw); go_simp); all_goals with_reducible rfl
    try go_frame
    refine tk (oi := ⟨_, _, _, _, _, _⟩) (v := ?_) 23 rfl (by kernel_rfl) (fun _ _ _ h => h) (.inl ⟨by rfl, ?_⟩) (by assumption) ?_; rotate_left
    · (intro wS hSw; (try dsimp only at hSw); go_simp); all_goals with_reducible rfl
    try go_frame
    refine tk (oi := ⟨_, _, _, _, _, _⟩) (v := ?_) 24 rfl (by kernel_rfl) (fun _ _ _ h => h) (.inl ⟨by rfl, ?_⟩) (by assumption) ?_; rotate_left
    · (intro wS hSw; (try dsimp only at hSw); go_simp); all_goals with_reducible rfl
    try go_frame
    refine tk (oi := ⟨_, _, _, _, _, _⟩) (v := ?_) 25 rfl (by kernel_rfl) (fun _ _ _ h => h) (.inl ⟨by rfl, ?_⟩) (by assumption) ?_; rotate_left
    · (intro wS hSw; (try dsimp only at hSw); go_simp); all_goals with_reducible rfl
    try go_frame
    refine tk (oi := ⟨_, _, _, _, _, _⟩) (v := ?_) 26 rfl (by kernel_rfl) (fun _ _ _ h => h) (.inl ⟨by rfl, ?_⟩) (by assumption) ?_; rotate_left
    · (intro wS hSw; (try dsimp only at hSw); go_simp); all_goals with_reducible rfl
    try go_frame
    refine tk (oi := ⟨_, _, _, _, _, _⟩) (v := ?_) 27 rfl (by kernel_rfl) (fun _ _ _ h => h) (.inl ⟨by rfl, ?_⟩) (by assumption) ?_; rotate_left
    · (intro wS hSw; (try dsimp only at hSw); go_simp); all_goals with_reducible rfl
    try go_frame
    refine tk (oi := ⟨_, _, _, _, _, _⟩) (v := ?_) 28 rfl (by kernel_rfl) (fun _ _ _ h => h) (.inl ⟨by rfl, ?_⟩) (by assumption) ?_; rotate_left
    · (intro wS hSw; (try dsimp only at hSw); go_simp); all_goals with_reducible rfl
    try go_frame
    refine tk (oi := ⟨_, _, _, _, _, _⟩) (v := ?_) 29 rfl (by kernel_rfl) (fun _ _ _ h => h) (.inl ⟨by rfl, ?_⟩) (by assumption) ?_; rotate_left
    · (intro wS hSw; (try dsimp only at hSw); go_simp); all_goals with_reducible rfl
    try go_frame
    refine tk (oi := ⟨_, _, _, _, _, _⟩) (v := undef) 30 rfl (by kernel_rfl) (fun _ _ _ h => h) (.inr ⟨by rfl, rfl⟩) (by assumption) ?_
    try go_frame
    refine tk (oi := ⟨_, _, _, _, _, _⟩) (v := undef) 31 rfl (by kernel_rfl) (fun _ _ _ h => h) (.inr ⟨by rfl, rfl⟩) (by assumption) ?_
    try go_frame
    refine tk (oi := ⟨_, _, _, _, _, _⟩) (v := undef) 32 rfl (by kernel_rfl) (fun _ _ _ h => h) (.inr ⟨by rfl, rfl⟩) (by assumption) ?_
    try go_frame
    refine tk (oi := ⟨_, _, _, _, _, _⟩) (v := undef) 33 rfl (by kernel_rfl) (fun _ _ _ h => h) (.inr ⟨by rfl, rfl⟩) (by assumption) ?_
    try go_frame
    refine tk (oi := ⟨_, _, _, _, _, _⟩) (v := undef) 34 rfl (by kernel_rfl) (fun _ _ _ h => h) (.inr ⟨by rfl, rfl⟩) (by assumption) ?_
    try go_frame
    refine tk (oi := ⟨_, _, _, _, _, _⟩) (v := undef) 35 rfl (by kernel_rfl) (fun _ _ _ h => h) (.inr ⟨by rfl, rfl⟩) (by assumption) ?_
    try go_frame
    refine tk (oi := ⟨_, _, _, _, _, _⟩) (v := undef) 36 rfl (by kernel_rfl) (fun _ _ _ h => h) (.inr ⟨by rfl, rfl⟩) (by assumption) ?_
    try go_frame
    refine tk (oi := ⟨_, _, _, _, _, _⟩) (v := ?_) 37 rfl (by kernel_rfl) (fun _ _ _ h => h) (.inl ⟨by rfl, ?_⟩) (by assumption) ?_; rotate_left
    · (intro wS hSw; (try dsimp only at hSw); go_simp); all_goals with_reducible rfl
    try go_frame
    refine tk (oi := ⟨_, _, _, _, _, _⟩) (v := ?_) 38 rfl (by kernel_rfl) (fun _ _ _ h => h) (.inl ⟨by rfl, ?_⟩) (by assumption) ?_; rotate_left
    · (intro wS hSw; (try dsimp only at hSw); go_simp); all_goals with_reducible rfl
    try go_frame
    refine tk (oi := ⟨_, _, _, _, _, _⟩) (v := ?_) 39 rfl (by kernel_rfl) (fun _ _ _ h => h) (.inl ⟨by rfl, ?_⟩) (by assumption) ?_; rotate_left
    · (intro wS hSw; (try dsimp only at hSw); go_simp); all_goals with_reducible rfl
    try go_frame
    refine wpAnyH_done (by kernel_rfl) ?_ _
    clear hW1 wk kn w1 t0 t1 t2 d1 d2 d3
    have hbD : Below W1.heap.size W1 W1.drew := (Below.refl _ W1).drew
    obtain ⟨e0, e1, e2, e3, e4⟩ := hcs.out _ hbD
    have hbD' := hbW.trans (hbD.mono (Nat.le_of_lt hzW))
    by_cases l40 : 40 ≤ x.level
    · have hv : Hid (42 = V) := by show _ = _; rw [← hv'.out, if_pos l40]; rfl
      clear hv'
      go_wp2_with fail
      go_ret
      exact ⟨by rw [← hv.out]; rfl, hbD'⟩
    by_cases k1000 : 1000 ≤ k
    · have hv : Hid (43 = V) := by show _ = _; rw [← hv'.out, if_neg l40, if_pos k1000]; rfl
      clear hv'
      have k1' : (1000 : Int) ≤ k := by omega
      go_wp2_with fail
      go_ret
      exact ⟨by rw [← hv.out]; rfl, hbD'⟩
    have hv : Hid (partsE x = V) := by show _ = _; rw [← hv'.out, if_neg l40, if_neg k1000, if_pos rfl]
    clear hv'
    have k1' : (k : Int) < 1000 := by omega
    have l40' : x.level < 40 := by omega
    go_wp2_with fail
    refine (RParts_any x A' c' _ ?_ HS.out V hv).mono ?_
    · exact (HAT.out.below hbD').more hbD'.size
    rintro e w3 ⟨rfl, hb3⟩
    go_wp2_with fail
    go_ret
    exact ⟨rfl, hbD'.trans (hb3.mono hbD'.size)⟩
end Go.Proofs.Ythifddkmbjnncaa

/-
  The walks of parse.Check and of ref04.Check.
-/
namespace Go.Proofs.Ythifddkmbjnncaa
open Go.RowKit

theorem place_any (l : List ItemD) (A : Option Addr) (c k : Nat) (x : ItemD) (w : World) (hA : ItemsAt w w.heap.size A l) (hx : l[k]? = some x) (hlen : l.length ≤ 1000000000) (hpl : ∀ p, prevOf l k = some p → 0 ≤ p.level ∧ p.level < 40) (V : Int) (hV : Hid (placeE (prevOf l k) k x = V)) :
    Calls Try.prog 50 #[.slice A l.length c, .int .i64 k] w (Ret w (.int .i64 V)) := by
  have hl : k < l.length := (List.getElem?_eq_some_iff.1 hx).1
  obtain ⟨ad, rfl, _⟩ := hA (by omega)
  by_cases hk : k = 0
  · subst hk
    exact place_first l ad c x w hA hx hlen V hV
  · have hp : l[k - 1]? = some l[k - 1] := List.getElem?_eq_getElem _
    have he : prevOf l k = some l[k - 1] := by unfold prevOf; rw [if_neg hk, hp]
    have hb := hpl _ he
    rw [he] at hV
    exact place_later l ad c k x _ w hA (by omega) hx hp hlen (by omega) V hV

theorem Rone_any (l : List ItemD) (A : Option Addr) (c k : Nat) (x : ItemD) (w : World) (hA : ItemsAt w w.heap.size A l) (hx : l[k]? = some x) (hlen : l.length ≤ 1000000000) (hpl : ∀ p, prevOf l k = some p → 0 ≤ p.level ∧ p.level < 40) (hs : SmallItem x) (V : Int) (hV : Hid (oneE (prevOf l k) k x = V)) :
    Calls Try.prog 52 #[.slice A l.length c, .int .i64 k] w (Ret w (.int .i64 V)) := by
  have hl : k < l.length := (List.getElem?_eq_some_iff.1 hx).1
  obtain ⟨ad, rfl, _⟩ := hA (by omega)
  by_cases hk : k = 0
  · subst hk
    exact one_first l ad c x w hA hx hlen hs V hV
  · have hp : l[k - 1]? = some l[k - 1] := List.getElem?_eq_getElem _
    have he : prevOf l k = some l[k - 1] := by unfold prevOf; rw [if_neg hk, hp]
    have hb := hpl _ he
    rw [he] at hV
    exact one_later l ad c k x _ w hA (by omega) hx hp hlen (by omega) hs V hV

set_option maxRecDepth 100000 in
set_option maxHeartbeats 2000000 in
theorem Check_any (l : List ItemD) (A : Option Addr) (c : Nat) (w : World) (hA : ItemsAt w w.heap.size A l) (hs : SmallItems l) (n e : Int) (hV : Hid (checkL l = (n, e))) :
    Calls Try.prog 31 #[.slice A l.length c] w (Ret w (.tuple #[.int .i64 n, .int .i64 e])) := by
  obtain ⟨hs1, hs2⟩ := hs
  have HS := Lib.hid hs2
  have HA := Lib.hid hA
  clear hs2 hA
  by_cases h0 : l = []
  · have hv : Hid (n = 0 ∧ e = 40) := by
      have := hV.out
      unfold checkL at this
      rw [if_pos h0] at this
      injection this with a b
      exact ⟨a.symm, b.symm⟩
    have hlen : l.length = 0 := by rw [h0]; rfl
    rw [hlen]
    clear h0 hV hs1 hlen
    go_enter Try.func31, Try.ntmps31
    go_wp2_with fail
    go_ret2
    obtain ⟨rfl, rfl⟩ := hv.out
    exact ⟨rfl, Below.refl _ _⟩
  · have hpos : 0 < l.length := List.length_pos_iff.2 h0
    have hC : Hid (checkF (prevOf l 0) 0 (l.drop 0) = (n, e)) := by
      have := hV.out
      unfold checkL at this
      rw [if_neg h0] at this
      exact this
    have t0 : ((l.length : Int) == 0) = false := by simp; omega
    clear h0 hV
    go_enter Try.func31, Try.ntmps31
    go_wp2_with fail
    go_loopw [12] (fun i wr => ∃ (k : Nat), k ≤ l.length ∧ i = .int .i64 k ∧ Hid (checkF (prevOf l k) k (l.drop k) = (n, e)) ∧ Hid (∀ p, prevOf l k = some p → 0 ≤ p.level ∧ p.level < 40) ∧ Below w.heap.size w wr) (fun i _ => l.length - (intOf i).toNat)
    case atStart => exact ⟨0, Nat.zero_le _, rfl, hC, fun p hp => by simp [prevOf] at hp, Below.refl _ _⟩
    case round =>
      obtain ⟨k, hk, rfl, hin, hpv, hbel⟩ := hrel
      have hzr := hbel.size
      by_cases hlt : k < l.length
      · obtain ⟨x, hx⟩ : ∃ x, Hid (l[k]? = some x) := ⟨l[k], List.getElem?_eq_getElem _⟩
        have hAr := HA.out.below hbel
        obtain ⟨ad, hAd, _⟩ := hAr (by omega)
        subst hAd
        obtain ⟨hbl, A', c', hat, _, h0, h1, h2, h3, h4⟩ := hAr.item hx.out
        unfold strV at h2 h3
        have HAR := Lib.hid hAr
        have HAT := Lib.hid hat
        clear hAr hat
        have hsx := Lib.hid (HS.out k x hx.out)
        have hin' := hin.out
        rw [checkF_drop hx.out] at hin'
        have hlt' : (k : Int) < l.length := by omega
        obtain ⟨q, hq⟩ : ∃ q, Hid (placeE (prevOf l k) k x = q) := ⟨_, rfl⟩
        obtain ⟨W1, hW1⟩ : ∃ W1, Hid (W1 = wr.alloc (.cells #[.int .i64 x.level, .int .i64 x.kind, .string ⟨x.name.toArray⟩, .string ⟨x.text.toArray⟩, .slice A' x.attrs.length c'] 50)) := ⟨_, rfl⟩
        have hbW : Below wr.heap.size wr W1 := by rw [hW1.out]; exact (Below.refl _ wr).alloc (Nat.le_refl _) _
        have hzW : wr.heap.size < W1.heap.size := by rw [hW1.out]; simp
        have hcs : Hid (∀ w', Below W1.heap.size W1 w' → w'.cell? ⟨wr.heap.size, 0, none⟩ = some (.int .i64 x.level) ∧ w'.cell? ⟨wr.heap.size, 1, none⟩ = some (.int .i64 x.kind) ∧ w'.cell? ⟨wr.heap.size, 2, none⟩ = some (.string ⟨x.name.toArray⟩) ∧ w'.cell? ⟨wr.heap.size, 3, none⟩ = some (.string ⟨x.text.toArray⟩) ∧ w'.cell? ⟨wr.heap.size, 4, none⟩ = some (.slice A' x.attrs.length c')) := fun w' hb => by
          refine ⟨?_, ?_, ?_, ?_, ?_⟩
          all_goals
            rw [hb.cell (by exact hzW), hW1.out, World.cell?_alloc_at _ _ _ _ (by simp)]; rfl
        clear hbl
        go_wp2_with fail
        rw [← hW1.out]
        refine (place_any l (some ad) c k x W1 ((HAR.out.below (hbW.mono hzr)).more (by omega)) hx.out hs1 hpv.out q hq).mono ?_; rintro e2 w2 ⟨rfl, hb2⟩
        obtain ⟨c0, c1, c2, c3, c4⟩ := hcs.out _ hb2
        have hb2' : Below w.heap.size w w2 := hbel.trans ((hbW.mono hzr).trans (hb2.mono (by omega)))
        clear h0 h1 h2 h3 h4
        by_cases hq0 : q = 0
        · obtain ⟨f, hf⟩ : ∃ f, Hid (partsE x = f) := ⟨_, rfl⟩
          have ho : oneE (prevOf l k) k x = f := by unfold oneE; rw [hq.out, if_pos hq0]; exact hf.out
          rw [ho] at hin'
          subst hq0
          by_cases hf0 : f = 0
          · rw [if_pos hf0] at hin'
            have HIN := Lib.hid hin'
            have hpv' : Hid (∀ p, prevOf l (k + 1) = some p → 0 ≤ p.level ∧ p.level < 40) := fun p hp => by
              rw [prevOf_succ hx.out] at hp
              injection hp with hp; subst hp
              exact placeE_zero hq.out
            subst hf0
            clear hin' hin ho hpv
            go_wp2_with fail
            refine (parts_any x A' c' w2 ((HAT.out.below (hbW.mono hzr |>.trans (hb2.mono (by omega)))).more hb2'.size) hsx.out 0 hf).mono ?_; rintro e3 w3 ⟨rfl, hb3⟩
            have hb3' : Below w.heap.size w w3 := hb2'.trans (hb3.mono hb2'.size)
            go_wp2_with fail
            go_roundw
            case rel => exact ⟨k + 1, by omega, by go_num, HIN, hpv', hb3'⟩
            case measure => simp [intOf]; omega
          · rw [if_neg hf0] at hin'
            have HIN := Lib.hid hin'
            have tf : (f != 0) = true := by simp [hf0]
            clear hin' hin ho hpv hf0
            go_wp2_with fail
            refine (parts_any x A' c' w2 ((HAT.out.below (hbW.mono hzr |>.trans (hb2.mono (by omega)))).more hb2'.size) hsx.out f hf).mono ?_; rintro e3 w3 ⟨rfl, hb3⟩
            have hb3' : Below w.heap.size w w3 := hb2'.trans (hb3.mono hb2'.size)
            go_wp2_with fail
            go_ret2
            have := HIN.out
            injection this with a b
            subst a; subst b
            exact ⟨rfl, hb3'⟩
        · have ho : oneE (prevOf l k) k x = q := by unfold oneE; rw [hq.out, if_neg hq0]
          rw [ho, if_neg hq0] at hin'
          have HIN := Lib.hid hin'
          have tq : (q == 0) = false := by simp [hq0]
          have tq' : (q != 0) = true := by simp [hq0]
          clear hin' hin ho hpv hq0
          go_wp2_with fail
          go_ret2
          have := HIN.out
          injection this with a b
          subst a; subst b
          exact ⟨rfl, hb2'⟩
      · have hk' : k = l.length := by omega
        have HIN : Hid ((0, 0) = (n, e)) := by
          show _ = _
          rw [← hin.out, List.drop_eq_nil_of_le (by omega)]; rfl
        subst hk'
        clear hin hlt hk hpv
        go_wp2_with fail
        go_ret2
        have := HIN.out
        injection this with a b
        subst a; subst b
        exact ⟨rfl, hbel⟩

set_option maxRecDepth 100000 in
set_option maxHeartbeats 2000000 in
theorem RCheck_any (l : List ItemD) (A : Option Addr) (c : Nat) (w : World) (hA : ItemsAt w w.heap.size A l) (hs : SmallItems l) (n e : Int) (hV : Hid (checkL l = (n, e))) :
    Calls Try.prog 32 #[.slice A l.length c] w (Ret w (.tuple #[.int .i64 n, .int .i64 e])) := by
  obtain ⟨hs1, hs2⟩ := hs
  have HS := Lib.hid hs2
  have HA := Lib.hid hA
  clear hs2 hA
  by_cases h0 : l = []
  · have hv : Hid (n = 0 ∧ e = 40) := by
      have := hV.out
      unfold checkL at this
      rw [if_pos h0] at this
      injection this with a b
      exact ⟨a.symm, b.symm⟩
    have hlen : l.length = 0 := by rw [h0]; rfl
    rw [hlen]
    clear h0 hV hs1 hlen
    go_enter Try.func32, Try.ntmps32
    go_wp2_with fail
    go_ret2
    obtain ⟨rfl, rfl⟩ := hv.out
    exact ⟨rfl, Below.refl _ _⟩
  · have hpos : 0 < l.length := List.length_pos_iff.2 h0
    have hC : Hid (checkF (prevOf l 0) 0 (l.drop 0) = (n, e)) := by
      have := hV.out
      unfold checkL at this
      rw [if_neg h0] at this
      exact this
    have t0 : ((l.length : Int) == 0) = false := by simp; omega
    clear h0 hV
    go_enter Try.func32, Try.ntmps32
    go_wp2_with fail
    go_loopw [4] (fun i wr => ∃ (k : Nat), k ≤ l.length ∧ i = .int .i64 k ∧ Hid (checkF (prevOf l k) k (l.drop k) = (n, e)) ∧ Hid (∀ p, prevOf l k = some p → 0 ≤ p.level ∧ p.level < 40) ∧ Below w.heap.size w wr) (fun i _ => l.length - (intOf i).toNat)
    case atStart => exact ⟨0, Nat.zero_le _, rfl, hC, fun p hp => by simp [prevOf] at hp, Below.refl _ _⟩
    case round =>
      obtain ⟨k, hk, rfl, hin, hpv, hbel⟩ := hrel
      have hzr := hbel.size
      by_cases hlt : k < l.length
      · obtain ⟨x, hx⟩ : ∃ x, Hid (l[k]? = some x) := ⟨l[k], List.getElem?_eq_getElem _⟩
        have hAr := Lib.hid (HA.out.below hbel)
        have hsx := Lib.hid (HS.out k x hx.out)
        have hin' := hin.out
        rw [checkF_drop hx.out] at hin'
        have hlt' : (k : Int) < l.length := by omega
        obtain ⟨q, hq⟩ : ∃ q, Hid (oneE (prevOf l k) k x = q) := ⟨_, rfl⟩
        rw [hq.out] at hin'
        by_cases hq0 : q = 0
        · rw [if_pos hq0] at hin'
          have HIN := Lib.hid hin'
          subst hq0
          have hpv' : Hid (∀ p, prevOf l (k + 1) = some p → 0 ≤ p.level ∧ p.level < 40) := fun p hp => by
            rw [prevOf_succ hx.out] at hp
            injection hp with hp; subst hp
            exact placeE_zero (oneE_zero hq.out).1
          clear hin' hin
          go_wp2_with fail
          refine (Rone_any l A c k x wr (hAr.out.more hzr) hx.out hs1 hpv.out hsx.out 0 hq).mono ?_; rintro e2 w2 ⟨rfl, hb2⟩
          have hb2' : Below w.heap.size w w2 := hbel.trans (hb2.mono hzr)
          go_wp2_with fail
          go_roundw
          case rel => exact ⟨k + 1, by omega, by go_num, HIN, hpv', hb2'⟩
          case measure => simp [intOf]; omega
        · rw [if_neg hq0] at hin'
          have HIN := Lib.hid hin'
          have tq' : (q != 0) = true := by simp [hq0]
          clear hin' hin hq0
          go_wp2_with fail
          refine (Rone_any l A c k x wr (hAr.out.more hzr) hx.out hs1 hpv.out hsx.out q hq).mono ?_; rintro e2 w2 ⟨rfl, hb2⟩
          have hb2' : Below w.heap.size w w2 := hbel.trans (hb2.mono hzr)
          go_wp2_with fail
          go_ret2
          have := HIN.out
          injection this with a b
          subst a; subst b
          exact ⟨rfl, hb2'⟩
      · have hk' : k = l.length := by omega
        have HIN : Hid ((0, 0) = (n, e)) := by
          show _ = _
          rw [← hin.out, List.drop_eq_nil_of_le (by omega)]; rfl
        subst hk'
        clear hin hlt hk hpv
        go_wp2_with fail
        go_ret2
        have := HIN.out
        injection this with a b
        subst a; subst b
        exact ⟨rfl, hbel⟩
end Go.Proofs.Ythifddkmbjnncaa

/-
  The laws ParseChecks and ParseShape walked.
-/
namespace Go.Proofs.Ythifddkmbjnncaa
open Go.RowKit

set_option maxRecDepth 100000 in
set_option maxHeartbeats 1000000 in
theorem walk_ParseChecks (l : List ItemD) (A : Option Addr) (c : Nat) (w : World) (hA : ItemsAt w w.heap.size A l) (hs : SmallDoc l) :
    Calls Try.prog 11 #[.slice A l.length c] w (Ret w (.bool true)) := by
  obtain ⟨n, e, hv⟩ : ∃ n e, Hid (checkL l = (n, e)) := ⟨_, _, rfl⟩
  go_enter Try.func11, Try.ntmps11
  go_wp2_with fail
  refine (Check_any l A c w hA hs.1 n e hv).mono ?_
  rintro e1 w1 ⟨rfl, hb1⟩
  have hA1 := (hA.below hb1).more hb1.size
  go_wp2_with fail
  refine (RCheck_any l A c w1 hA1 hs.1 n e hv).mono ?_
  rintro e2 w2 ⟨rfl, hb2⟩
  go_wp2_with fail
  refine (alive4_any w2).mono ?_
  rintro e3 w3 ⟨rfl, hb3⟩
  go_wp2_with fail
  go_ret
  exact ⟨rfl, hb1.trans ((hb2.trans (hb3.mono hb2.size)).mono hb1.size)⟩

set_option maxRecDepth 100000 in
set_option maxHeartbeats 4000000 in
theorem walk_ParseShape (l : List ItemD) (A : Option Addr) (c : Nat) (w : World) (hA : ItemsAt w w.heap.size A l) (hs : SmallDoc l) :
    Calls Try.prog 13 #[.slice A l.length c] w (Ret w (.bool true)) := by
  obtain ⟨n, e, hv⟩ : ∃ n e, Hid (checkL l = (n, e)) := ⟨_, _, rfl⟩
  have hl : l.length ≤ 1000000000 := hs.1.1
  go_enter Try.func13, Try.ntmps13
  go_wp2_with fail
  refine (Check_any l A c w hA hs.1 n e hv).mono ?_
  rintro e1 w1 ⟨rfl, hb1⟩
  have hA1 := (hA.below hb1).more hb1.size
  by_cases he : e = 0
  · subst he
    have HD : Hid (Doc l) := by
      show Doc l
      exact checkL_ok (by rw [hv.out])
    have HA := Lib.hid hA1
    have HW := Lib.hid hb1
    clear hA hA1 hv hs
    go_wp2_with fail
    go_loopw [17] (fun i wr => ∃ (k : Nat), k ≤ l.length ∧ i = .int .i64 (k : Int) ∧ Below w1.heap.size w1 wr) (fun i _ => l.length - (intOf i).toNat)
    case atStart => exact ⟨0, Nat.zero_le _, rfl, Below.refl _ _⟩
    case round =>
      obtain ⟨k, hk, rfl, hbel⟩ := hrel
      have hzr := hbel.size
      by_cases hlt : k < l.length
      · obtain ⟨x, hx⟩ : ∃ x, Hid (l[k]? = some x) := ⟨l[k], List.getElem?_eq_getElem _⟩
        have hAr := (HA.out.below hbel).more hzr
        obtain ⟨ad, hAd, hbl, _⟩ := hAr (by omega)
        subst hAd
        have hpar : Hid (parL l k = parN l x.level k) := by
          show _ = _
          unfold parL
          rw [if_neg (by omega)]
          show (match l[k]? with | some x => _ | none => _) = _
          rw [hx.out, Int.toNat_natCast]
        have HAR := Lib.hid hAr
        clear hAr
        by_cases hk0 : k = 0
        · subst hk0
          have hp0 : parL l ((0 : Nat) : Int) = -1 := by rw [hpar.out]; rfl
          have he0 : endL l 0 = l.length := by
            unfold endL
            rw [if_neg (by omega)]
            show ((endN l 0 : Nat) : Int) = _
            rw [HD.out.shape0]
          have HP0 := Lib.hid hp0
          have HE0 := Lib.hid he0
          clear hp0 he0
          go_wp2_with fail
          refine (Parent_all l (some ad) c 0 wr HAR.out hl).mono ?_
          rintro e2 w2 ⟨rfl, hb2⟩
          have hA2 := (HAR.out.below hb2).more hb2.size
          rw [show parL l 0 = -1 from HP0.out]
          go_wp2_with fail
          refine (End_all l (some ad) c 0 w2 hA2 hl).mono ?_
          rintro e3 w3 ⟨rfl, hb3⟩
          rw [HE0.out]
          go_wp2_with fail
          go_roundw
          case rel => exact ⟨1, by omega, by go_num, hbel.trans ((hb2.trans (hb3.mono hb2.size)).mono hzr)⟩
          case measure => simp [intOf]; omega
        · obtain ⟨p, y, hp, hpk, hy, hyk, hyl, hend⟩ := HD.out.shape (by omega) hx.out
          have hlx := (placeE_zero (oneE_zero (HD.out.one k x hx.out)).1)
          obtain ⟨hlx0, hlx1⟩ := hlx
          have t0 : ((k : Int) == 0) = false := beq_eq_false_iff_ne.2 (by omega)
          have hpl : p < l.length := by omega
          have he1 : endL l k = (endN l k : Nat) := by
            unfold endL; rw [if_neg (by omega)]; rfl
          have he2 : endL l p = (endN l p : Nat) := by
            unfold endL; rw [if_neg (by omega)]; rfl
          have HE1 := Lib.hid he1
          have HE2 := Lib.hid he2
          have hpp : Hid (parL l k = (p : Int)) := by show _ = _; rw [hpar.out, hp]
          have hend' : (endN l k : Int) ≤ (endN l p : Int) := by omega
          have HEND := Lib.hid hend'
          have hwl : IntKind.i64.wrap (x.level - 1) = x.level - 1 := IntWalk.i64_in _ (by omega)
          have HY := Lib.hid hy
          have HYK := Lib.hid hyk
          have HYL := Lib.hid hyl
          clear he1 he2 hend' hend hp hy hyk hyl hk0
          go_wp2_with fail
          refine (Parent_all l (some ad) c k wr HAR.out hl).mono ?_
          rintro e2 w2 ⟨rfl, hb2⟩
          have hA2 := (HAR.out.below hb2).more hb2.size
          rw [hpp.out]
          have HS0 : Hid (∀ w', Below w2.heap.size w2 w' → w'.cell? ⟨(ad.add (p * 5)).block, (ad.add (p * 5)).off + 1, none⟩ = some (.int .i64 1) ∧ w'.cell? (ad.add (p * 5)) = some (.int .i64 (x.level - 1)) ∧ w'.cell? (ad.add (k * 5)) = some (.int .i64 x.level)) := fun w' hb' => by
            obtain ⟨_, _, _, _, _, y0, y1, _⟩ := (hA2.below hb').item HY.out
            obtain ⟨_, _, _, _, _, x0, _⟩ := (hA2.below hb').item hx.out
            rw [HYK.out] at y1
            rw [HYL.out] at y0
            exact ⟨y1, y0, x0⟩
          have HA2 := Lib.hid hA2
          clear hA2
          have kp0 : (0 : Int) ≤ (p : Int) := by omega
          have kp1 : (p : Int) < l.length := by omega
          have kk0 : (0 : Int) ≤ (k : Int) := by omega
          have kk1 : (k : Int) < l.length := by omega
          go_wp2_with fail
          refine wp_region_held_drew (S := fun w' => w'.cell? ⟨(ad.add (p * 5)).block, (ad.add (p * 5)).off + 1, none⟩ = some (.int .i64 1) ∧ w'.cell? (ad.add (p * 5)) = some (.int .i64 (x.level - 1)) ∧ w'.cell? (ad.add (k * 5)) = some (.int .i64 x.level)) (by kernel_rfl) (HS0.out _ (Below.refl _ w2).drew) (fun hHeld => ?_)
          refine tk (oi := ⟨_, _, _, _, _, _⟩) (v := ?_) 0 rfl (by kernel_rfl) (fun _ _ _ h => h) (.inl ⟨by rfl, ?_⟩) (by assumption) ?_; rotate_left
          · (intro wS hSw; (try dsimp only at hSw); go_simp); all_goals with_reducible rfl
          try go_frame
          refine tk (oi := ⟨_, _, _, _, _, _⟩) (v := ?_) 1 rfl (by kernel_rfl) (fun _ _ _ h => h) (.inl ⟨by rfl, ?_⟩) (by assumption) ?_; rotate_left
          · (intro wS hSw; (try dsimp only at hSw); go_simp); all_goals with_reducible rfl
          try go_frame
          refine tk (oi := ⟨_, _, _, _, _, _⟩) (v := ?_) 2 rfl (by kernel_rfl) (fun _ _ _ h => h) (.inl ⟨by rfl, ?_⟩) (by assumption) ?_; rotate_left
          · (intro wS hSw; (try dsimp only at hSw); go_simp); all_goals with_reducible rfl
          try go_frame
          refine tk (oi := ⟨_, _, _, _, _, _⟩) (v := ?_) 3 rfl (by kernel_rfl) (fun _ _ _ h => h) (.inl ⟨by rfl, ?_⟩) (by assumption) ?_; rotate_left
          · (intro wS hSw; (try dsimp only at hSw); go_simp); all_goals with_reducible rfl
          try go_frame
          refine tk (oi := ⟨_, _, _, _, _, _⟩) (v := ?_) 4 rfl (by kernel_rfl) (fun _ _ _ h => h) (.inl ⟨by rfl, ?_⟩) (by assumption) ?_; rotate_left
          · (intro wS hSw; (try dsimp only at hSw); go_simp); all_goals with_reducible rfl
          try go_frame
          refine tk (oi := ⟨_, _, _, _, _, _⟩) (v := ?_) 5 rfl (by kernel_rfl) (fun _ _ _ h => h) (.inl ⟨by rfl, ?_⟩) (by assumption) ?_; rotate_left
          · (intro wS hSw; (try dsimp only at hSw); go_simp); all_goals with_reducible rfl
          try go_frame
          refine tk (oi := ⟨_, _, _, _, _, _⟩) (v := ?_) 6 rfl (by kernel_rfl) (fun _ _ _ h => h) (.inl ⟨by rfl, ?_⟩) (by assumption) ?_; rotate_left
          · (intro wS hSw; (try dsimp only at hSw); go_simp); all_goals with_reducible rfl
          try go_frame
          refine tk (oi := ⟨_, _, _, _, _, _⟩) (v := ?_) 7 rfl (by kernel_rfl) (fun _ _ _ h => h) (.inl ⟨by rfl, ?_⟩) (by assumption) ?_; rotate_left
          · (intro wS hSw; (try dsimp only at hSw); go_simp); all_goals with_reducible rfl
          try go_frame
          refine tk (oi := ⟨_, _, _, _, _, _⟩) (v := ?_) 8 rfl (by kernel_rfl) (fun _ _ _ h => h) (.inl ⟨by rfl, ?_⟩) (by assumption) ?_; rotate_left
          · (intro wS hSw; (try dsimp only at hSw); go_simp); all_goals with_reducible rfl
          try go_frame
          refine tk (oi := ⟨_, _, _, _, _, _⟩) (v := ?_) 9 rfl (by kernel_rfl) (fun _ _ _ h => h) (.inl ⟨by rfl, ?_⟩) (by assumption) ?_; rotate_left
          · (intro wS hSw; (try dsimp only at hSw); go_simp); all_goals with_reducible rfl
          try go_frame
          refine tk (oi := ⟨_, _, _, _, _, _⟩) (v := ?_) 10 rfl (by kernel_rfl) (fun _ _ _ h => h) (.inl ⟨by rfl, ?_⟩) (by assumption) ?_; rotate_left
          · (intro wS hSw; (try dsimp only at hSw); go_simp); all_goals with_reducible rfl
          try go_frame
          refine tk (oi := ⟨_, _, _, _, _, _⟩) (v := ?_) 11 rfl (by kernel_rfl) (fun _ _ _ h => h) (.inl ⟨by rfl, ?_⟩) (by assumption) ?_; rotate_left
          · (intro wS hSw; (try dsimp only at hSw); go_simp); all_goals with_reducible rfl
          try go_frame
          refine tk (oi := ⟨_, _, _, _, _, _⟩) (v := ?_) 12 rfl (by kernel_rfl) (fun _ _ _ h => h) (.inl ⟨by rfl, ?_⟩) (by assumption) ?_; rotate_left
          · (intro wS hSw; (try dsimp only at hSw); go_simp); all_goals with_reducible rfl
          try go_frame
          refine tk (oi := ⟨_, _, _, _, _, _⟩) (v := ?_) 13 rfl (by kernel_rfl) (fun _ _ _ h => h) (.inl ⟨by rfl, ?_⟩) (by assumption) ?_; rotate_left
          · (intro wS hSw; (try dsimp only at hSw); go_simp); all_goals with_reducible rfl
          try go_frame
          refine tk (oi := ⟨_, _, _, _, _, _⟩) (v := ?_) 14 rfl (by kernel_rfl) (fun _ _ _ h => h) (.inl ⟨by rfl, ?_⟩) (by assumption) ?_; rotate_left
          · (intro wS hSw; (try dsimp only at hSw); go_simp); all_goals with_reducible rfl
          try go_frame
          refine tk (oi := ⟨_, _, _, _, _, _⟩) (v := ?_) 15 rfl (by kernel_rfl) (fun _ _ _ h => h) (.inl ⟨by rfl, ?_⟩) (by assumption) ?_; rotate_left
          · (intro wS hSw; (try dsimp only at hSw); go_simp); all_goals with_reducible rfl
          try go_frame
          refine tk (oi := ⟨_, _, _, _, _, _⟩) (v := ?_) 16 rfl (by kernel_rfl) (fun _ _ _ h => h) (.inl ⟨by rfl, ?_⟩) (by assumption) ?_; rotate_left
          · (intro wS hSw; (try dsimp only at hSw); go_simp); all_goals with_reducible rfl
          try go_frame
          refine tk (oi := ⟨_, _, _, _, _, _⟩) (v := ?_) 17 rfl (by kernel_rfl) (fun _ _ _ h => h) (.inl ⟨by rfl, ?_⟩) (by assumption) ?_; rotate_left
          · (intro wS hSw; (try dsimp only at hSw); go_simp); all_goals with_reducible rfl
          try go_frame
          refine tk (oi := ⟨_, _, _, _, _, _⟩) (v := ?_) 18 rfl (by kernel_rfl) (fun _ _ _ h => h) (.inl ⟨by rfl, ?_⟩) (by assumption) ?_; rotate_left
          · (intro wS hSw; (try dsimp only at hSw); go_simp); all_goals with_reducible rfl
          try go_frame
          refine tk (oi := ⟨_, _, _, _, _, _⟩) (v := ?_) 19 rfl (by kernel_rfl) (fun _ _ _ h => h) (.inl ⟨by rfl, ?_⟩) (by assumption) ?_; rotate_left
          · (intro wS hSw; (try dsimp only at hSw); go_simp); all_goals with_reducible rfl
          try go_frame
          refine tk (oi := ⟨_, _, _, _, _, _⟩) (v := ?_) 20 rfl (by kernel_rfl) (fun _ _ _ h => h) (.inl ⟨by rfl, ?_⟩) (by assumption) ?_; rotate_left
          · (intro wS hSw; (try dsimp only at hSw); go_simp); all_goals with_reducible rfl
          try go_frame
          refine tk (oi := ⟨_, _, _, _, _, _⟩) (v := ?_) 21 rfl (by kernel_rfl) (fun _ _ _ h => h) (.inl ⟨by rfl, ?_⟩) (by assumption) ?_; rotate_left
          · (intro wS hSw; (try dsimp only at hSw); go_simp); all_goals with_reducible rfl
          try go_frame
          refine tk (oi := ⟨_, _, _, _, _, _⟩) (v := ?_) 22 rfl (by kernel_rfl) (fun _ _ _ h => h) (.inl ⟨by rfl, ?_⟩) (by assumption) ?_; rotate_left
          · (intro wS hSw; (try dsimp only at hSw); go_simp); all_goals with_reducible rfl
          try go_frame
          refine tk (oi := ⟨_, _, _, _, _, _⟩) (v := ?_) 23 rfl (by kernel_rfl) (fun _ _ _ h => h) (.inl ⟨by rfl, ?_⟩) (by assumption) ?_; rotate_left
          · (intro wS hSw; (try dsimp only at hSw); go_simp); all_goals with_reducible rfl
          try go_frame
          refine tk (oi := ⟨_, _, _, _, _, _⟩) (v := ?_) 24 rfl (by kernel_rfl) (fun _ _ _ h => h) (.inl ⟨by rfl, ?_⟩) (by assumption) ?_; rotate_left
          · (intro wS hSw; (try dsimp only at hSw); go_simp); all_goals with_reducible rfl
          try go_frame
          refine tk (oi := ⟨_, _, _, _, _, _⟩) (v := ?_) 25 rfl (by kernel_rfl) (fun _ _ _ h => h) (.inl ⟨by rfl, ?_⟩) (by assumption) ?_; rotate_left
          · (intro wS hSw; (try dsimp only at hSw); go_simp); all_goals with_reducible rfl
          try go_frame
          refine tk (oi := ⟨_, _, _, _, _, _⟩) (v := ?_) 26 rfl (by kernel_rfl) (fun _ _ _ h => h) (.inl ⟨by rfl, ?_⟩) (by assumption) ?_; rotate_left
          · (intro wS hSw; (try dsimp only at hSw); go_simp); all_goals with_reducible rfl
          try go_frame
          refine tk (oi := ⟨_, _, _, _, _, _⟩) (v := ?_) 28 rfl (by kernel_rfl) (fun _ _ _ h => h) (.inl ⟨by rfl, ?_⟩) (by assumption) ?_; rotate_left
          · (intro wS hSw; (try dsimp only at hSw); go_simp); all_goals with_reducible rfl
          try go_frame
          refine tk (oi := ⟨_, _, _, _, _, _⟩) (v := ?_) 29 rfl (by kernel_rfl) (fun _ _ _ h => h) (.inl ⟨by rfl, ?_⟩) (by assumption) ?_; rotate_left
          · (intro wS hSw; (try dsimp only at hSw); go_simp); all_goals with_reducible rfl
          try go_frame
          refine wpAnyH_ready (rs := [27]) (by kernel_rfl) (by simp) ?_
          refine AllReadyH.cons (o := ⟨_, _, _, _, _, _⟩) rfl (fun K hK => ?_) AllReadyH.nil
          go_simp
          refine (End_all l (some ad) c k w2.drew HA2.out hl).mono ?_
          rintro e3 w3 ⟨rfl, hb3⟩
          rw [HE1.out]
          have hb3' : Below w2.heap.size w2 w3 := ((Below.refl _ w2).drew).trans hb3
          go_wp2_with fail
          refine hK.out _ _ (HS0.out _ hb3') (fun hHeld => ?_)
          clear hK K
          try go_frame
          refine wpAnyH_ready (rs := [30]) (by kernel_rfl) (by simp) ?_
          refine AllReadyH.cons (o := ⟨_, _, _, _, _, _⟩) rfl (fun K hK => ?_) AllReadyH.nil
          go_simp
          refine (End_all l (some ad) c p w3 ((HA2.out.below hb3').more hb3'.size) hl).mono ?_
          rintro e4 w4 ⟨rfl, hb4⟩
          rw [HE2.out]
          have hb4' : Below w2.heap.size w2 w4 := hb3'.trans (hb4.mono hb3'.size)
          go_wp2_with fail
          refine hK.out _ _ (HS0.out _ hb4') (fun hHeld => ?_)
          clear hK K
          try go_frame
          have hend' := HEND.out
          refine tk (oi := ⟨_, _, _, _, _, _⟩) (v := ?_) 31 rfl (by kernel_rfl) (fun _ _ _ h => h) (.inl ⟨by rfl, ?_⟩) (by assumption) ?_; rotate_left
          · (intro wS hSw; (try dsimp only at hSw); go_simp); all_goals with_reducible rfl
          try go_frame
          refine tk (oi := ⟨_, _, _, _, _, _⟩) (v := ?_) 32 rfl (by kernel_rfl) (fun _ _ _ h => h) (.inl ⟨by rfl, ?_⟩) (by assumption) ?_; rotate_left
          · (intro wS hSw; (try dsimp only at hSw); go_simp); all_goals with_reducible rfl
          try go_frame
          refine wpAnyH_done (by kernel_rfl) ?_ _
          clear hHeld
          go_wp2_with fail
          go_roundw
          case rel => exact ⟨k + 1, by omega, by go_num, hbel.trans ((hb2.trans (hb4'.mono hb2.size)).mono hzr)⟩
          case measure => simp [intOf]; omega
      · go_wp2_with fail
        refine (alive4_any wr).mono ?_
        rintro e3 w3 ⟨rfl, hb3⟩
        go_wp2_with fail
        go_ret
        exact ⟨rfl, HW.out.trans ((hbel.trans (hb3.mono hzr)).mono HW.out.size)⟩
  · have he1 : (e != 0) = true := by simpa using he
    clear he
    go_wp2_with fail
    refine (alive4_any w1).mono ?_
    rintro e3 w3 ⟨rfl, hb3⟩
    go_wp2_with fail
    go_ret
    exact ⟨rfl, hb1.trans (hb3.mono hb1.size)⟩
end Go.Proofs.Ythifddkmbjnncaa

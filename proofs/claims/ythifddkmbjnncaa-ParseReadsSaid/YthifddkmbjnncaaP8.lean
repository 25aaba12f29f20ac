/-
  Texts of this claim, joined (by a program of the claim's author): Place.
-/
import Derived.Test.YthifddkmbjnncaaP1
import Derived.Test.YthifddkmbjnncaaP7
import Derived.Deep.RegionHeld3
/-
  The walk of parse.place: whether an item may stand where it does.
-/
namespace Go.Proofs.Ythifddkmbjnncaa
open Go.RowKit

theorem ItemsAt.item {w : World} {B : Nat} {ad : Addr} {l : List ItemD} (h : ItemsAt w B (some ad) l) {k : Nat} {x : ItemD} (hx : l[k]? = some x) : ad.block < B ∧ ∃ A' c, AttrsAt w B A' x.attrs ∧ x.attrs.length ≤ c ∧
    w.cell? (ad.add (k * 5)) = some (.int .i64 x.level) ∧ w.cell? ⟨(ad.add (k * 5)).block, (ad.add (k * 5)).off + 1, none⟩ = some (.int .i64 x.kind) ∧ w.cell? ⟨(ad.add (k * 5)).block, (ad.add (k * 5)).off + 2, none⟩ = some (strV x.name) ∧
    w.cell? ⟨(ad.add (k * 5)).block, (ad.add (k * 5)).off + 3, none⟩ = some (strV x.text) ∧ w.cell? ⟨(ad.add (k * 5)).block, (ad.add (k * 5)).off + 4, none⟩ = some (.slice A' x.attrs.length c) := by
  obtain ⟨ad', e, hb, hc⟩ := h (by have := (List.getElem?_eq_some_iff.1 hx).1; omega)
  injection e with e; subst e
  exact ⟨hb, hc k x hx⟩

set_option maxRecDepth 100000 in
set_option maxHeartbeats 2000000 in
theorem place_first (l : List ItemD) (ad : Addr) (c : Nat) (x : ItemD) (w : World) (hA : ItemsAt w w.heap.size (some ad) l) (hx : l[0]? = some x) (_hlen : l.length ≤ 1000000000) (V : Int) (hV : Hid (placeE none 0 x = V)) :
    Calls Try.prog 50 #[.slice (some ad) l.length c, .int .i64 0] w (Ret w (.int .i64 V)) := by
  have hl : 0 < l.length := (List.getElem?_eq_some_iff.1 hx).1
  obtain ⟨hbl, A', c', hat, _, h0, h1, h2, h3, h4⟩ := hA.item hx
  unfold strV at h2 h3
  have ez : ad.add (0 * 5) = ad := by unfold Addr.add; simp
  rw [ez] at h0 h1 h2 h3 h4
  have HAT := Lib.hid hat
  have hV' := hV.out
  clear hA hx ez hat hV
  by_cases c1 : x.level ≠ 0 ∨ x.kind ≠ 1
  · have hv : Hid (69 = V) := by
      show _ = _
      rw [← hV']
      unfold placeE
      exact (if_pos c1).symm
    clear hV'
    by_cases c2 : x.level = 0
    · have d1 : (x.level != 0) = false := by simp [c2]
      have d2 : (x.kind != 1) = true := by simp; omega
      clear c1 c2
      go_enter Try.func50, Try.ntmps50
      go_wp2_with fail
      go_ret
      exact ⟨by rw [← hv.out]; rfl, (Below.refl _ w).alloc (Nat.le_refl _) _⟩
    · have d1 : (x.level != 0) = true := by simp [c2]
      clear c1 c2
      go_enter Try.func50, Try.ntmps50
      go_wp2_with fail
      go_ret
      exact ⟨by rw [← hv.out]; rfl, (Below.refl _ w).alloc (Nat.le_refl _) _⟩
  · have hl0 : x.level = 0 := by omega
    have hk1 : x.kind = 1 := by omega
    have hv : Hid (0 = V) := by
      show _ = _
      rw [← hV']
      unfold placeE
      exact (if_neg c1).symm
    have d1 : (x.level != 0) = false := by simp [hl0]
    have d2 : (x.kind != 1) = false := by simp [hk1]
    have l0 : x.level ≤ 0 := by omega
    clear hV' c1 hk1 hl0
    go_enter Try.func50, Try.ntmps50
    go_wp2_with fail
    refine wp_region_held_drew (S := fun _ => True) (by kernel_rfl) trivial (fun hHeld => ?_)
    refine tks (oi := ⟨_, _, _, _, _, _⟩) (v := ?_) 0 rfl (.inl ⟨by rfl, ?_⟩) ?_; rotate_left
    · (intro wS hSw; (try dsimp only at hSw); go_simp); all_goals with_reducible rfl
    try go_frame
    refine tks (oi := ⟨_, _, _, _, _, _⟩) (v := ?_) 1 rfl (.inl ⟨by rfl, ?_⟩) ?_; rotate_left
    · (intro wS hSw; (try dsimp only at hSw); go_simp); all_goals with_reducible rfl
    try go_frame
    refine tks (oi := ⟨_, _, _, _, _, _⟩) (v := ?_) 2 rfl (.inl ⟨by rfl, ?_⟩) ?_; rotate_left
    · (intro wS hSw; (try dsimp only at hSw); go_simp); all_goals with_reducible rfl
    try go_frame
    refine tks (oi := ⟨_, _, _, _, _, _⟩) (v := undef) 3 rfl (.inr ⟨by rfl, rfl⟩) ?_
    try go_frame
    refine tks (oi := ⟨_, _, _, _, _, _⟩) (v := undef) 4 rfl (.inr ⟨by rfl, rfl⟩) ?_
    try go_frame
    refine tks (oi := ⟨_, _, _, _, _, _⟩) (v := undef) 5 rfl (.inr ⟨by rfl, rfl⟩) ?_
    try go_frame
    refine tks (oi := ⟨_, _, _, _, _, _⟩) (v := undef) 6 rfl (.inr ⟨by rfl, rfl⟩) ?_
    try go_frame
    refine tks (oi := ⟨_, _, _, _, _, _⟩) (v := undef) 7 rfl (.inr ⟨by rfl, rfl⟩) ?_
    try go_frame
    refine tks (oi := ⟨_, _, _, _, _, _⟩) (v := undef) 8 rfl (.inr ⟨by rfl, rfl⟩) ?_
    try go_frame
    refine tks (oi := ⟨_, _, _, _, _, _⟩) (v := undef) 9 rfl (.inr ⟨by rfl, rfl⟩) ?_
    try go_frame
    refine tks (oi := ⟨_, _, _, _, _, _⟩) (v := undef) 10 rfl (.inr ⟨by rfl, rfl⟩) ?_
    try go_frame
    refine tks (oi := ⟨_, _, _, _, _, _⟩) (v := undef) 11 rfl (.inr ⟨by rfl, rfl⟩) ?_
    try go_frame
    refine tks (oi := ⟨_, _, _, _, _, _⟩) (v := undef) 12 rfl (.inr ⟨by rfl, rfl⟩) ?_
    try go_frame
    refine tks (oi := ⟨_, _, _, _, _, _⟩) (v := undef) 13 rfl (.inr ⟨by rfl, rfl⟩) ?_
    try go_frame
    refine tks (oi := ⟨_, _, _, _, _, _⟩) (v := undef) 14 rfl (.inr ⟨by rfl, rfl⟩) ?_
    try go_frame
    refine tks (oi := ⟨_, _, _, _, _, _⟩) (v := undef) 15 rfl (.inr ⟨by rfl, rfl⟩) ?_
    try go_frame
    refine tks (oi := ⟨_, _, _, _, _, _⟩) (v := undef) 16 rfl (.inr ⟨by rfl, rfl⟩) ?_
    try go_frame
    refine tks (oi := ⟨_, _, _, _, _, _⟩) (v := undef) 17 rfl (.inr ⟨by rfl, rfl⟩) ?_
    try go_frame
    refine tks (oi := ⟨_, _, _, _, _, _⟩) (v := undef) 18 rfl (.inr ⟨by rfl, rfl⟩) ?_
    try go_frame
    refine tks (oi := ⟨_, _, _, _, _, _⟩) (v := undef) 19 rfl (.inr ⟨by rfl, rfl⟩) ?_
    try go_frame
    refine tks (oi := ⟨_, _, _, _, _, _⟩) (v := undef) 20 rfl (.inr ⟨by rfl, rfl⟩) ?_
    try go_frame
    refine tks (oi := ⟨_, _, _, _, _, _⟩) (v := undef) 21 rfl (.inr ⟨by rfl, rfl⟩) ?_
    try go_frame
    refine tks (oi := ⟨_, _, _, _, _, _⟩) (v := undef) 22 rfl (.inr ⟨by rfl, rfl⟩) ?_
    try go_frame
    refine tks (oi := ⟨_, _, _, _, _, _⟩) (v := undef) 23 rfl (.inr ⟨by rfl, rfl⟩) ?_
    try go_frame
    refine tks (oi := ⟨_, _, _, _, _, _⟩) (v := undef) 24 rfl (.inr ⟨by rfl, rfl⟩) ?_
    try go_frame
    refine tks (oi := ⟨_, _, _, _, _, _⟩) (v := undef) 25 rfl (.inr ⟨by rfl, rfl⟩) ?_
    try go_frame
    refine tks (oi := ⟨_, _, _, _, _, _⟩) (v := undef) 26 rfl (.inr ⟨by rfl, rfl⟩) ?_
    try go_frame
    refine tks (oi := ⟨_, _, _, _, _, _⟩) (v := undef) 27 rfl (.inr ⟨by rfl, rfl⟩) ?_
    try go_frame
    refine tks (oi := ⟨_, _, _, _, _, _⟩) (v := undef) 28 rfl (.inr ⟨by rfl, rfl⟩) ?_
    try go_frame
    refine tks (oi := ⟨_, _, _, _, _, _⟩) (v := undef) 29 rfl (.inr ⟨by rfl, rfl⟩) ?_
    try go_frame
    refine tks (oi := ⟨_, _, _, _, _, _⟩) (v := undef) 30 rfl (.inr ⟨by rfl, rfl⟩) ?_
    try go_frame
    refine tks (oi := ⟨_, _, _, _, _, _⟩) (v := undef) 31 rfl (.inr ⟨by rfl, rfl⟩) ?_
    try go_frame
    refine tks (oi := ⟨_, _, _, _, _, _⟩) (v := undef) 32 rfl (.inr ⟨by rfl, rfl⟩) ?_
    try go_frame
    refine tks (oi := ⟨_, _, _, _, _, _⟩) (v := undef) 33 rfl (.inr ⟨by rfl, rfl⟩) ?_
    try go_frame
    refine tks (oi := ⟨_, _, _, _, _, _⟩) (v := undef) 34 rfl (.inr ⟨by rfl, rfl⟩) ?_
    try go_frame
    refine tks (oi := ⟨_, _, _, _, _, _⟩) (v := undef) 35 rfl (.inr ⟨by rfl, rfl⟩) ?_
    try go_frame
    refine tks (oi := ⟨_, _, _, _, _, _⟩) (v := undef) 36 rfl (.inr ⟨by rfl, rfl⟩) ?_
    try go_frame
    refine tks (oi := ⟨_, _, _, _, _, _⟩) (v := undef) 37 rfl (.inr ⟨by rfl, rfl⟩) ?_
    try go_frame
    refine tks (oi := ⟨_, _, _, _, _, _⟩) (v := ?_) 38 rfl (.inl ⟨by rfl, ?_⟩) ?_; rotate_left
    · (intro wS hSw; (try dsimp only at hSw); go_simp); all_goals with_reducible rfl
    try go_frame
    refine tks (oi := ⟨_, _, _, _, _, _⟩) (v := ?_) 39 rfl (.inl ⟨by rfl, ?_⟩) ?_; rotate_left
    · (intro wS hSw; (try dsimp only at hSw); go_simp); all_goals with_reducible rfl
    try go_frame
    refine wpAnyH_done (by kernel_rfl) ?_ _
    go_wp2_with fail
    go_ret
    exact ⟨by rw [← hv.out]; rfl, ((Below.refl _ w).alloc (Nat.le_refl _) _).drew⟩

set_option maxRecDepth 100000 in
set_option maxHeartbeats 4000000 in
theorem place_later (l : List ItemD) (ad : Addr) (c k : Nat) (x p : ItemD) (w : World) (hA : ItemsAt w w.heap.size (some ad) l) (hk0 : 0 < k) (hx : l[k]? = some x) (hp : l[k - 1]? = some p) (hlen : l.length ≤ 1000000000) (hpl : -9000000000000000000 ≤ p.level ∧ p.level ≤ 9000000000000000000) (V : Int) (hV : Hid (placeE (some p) k x = V)) :
    Calls Try.prog 50 #[.slice (some ad) l.length c, .int .i64 k] w (Ret w (.int .i64 V)) := by
  have hl : k < l.length := (List.getElem?_eq_some_iff.1 hx).1
  obtain ⟨hbl, A', c', hat, _, h0, h1, h2, h3, h4⟩ := hA.item hx
  obtain ⟨_, A2, c2, _, _, g0, g1, _, _, _⟩ := hA.item hp
  unfold strV at h2 h3
  have HAT := Lib.hid hat
  have hV' := hV.out
  clear hA hx hp hV hat
  have i1 : (0 : Int) ≤ (k : Int) := by omega
  have i2 : (1 : Int) ≤ (k : Int) := by omega
  have i3 : (k : Int) < l.length := by omega
  have i4 : (0 : Int) ≤ (k : Int) - 1 := by omega
  have i5 : (k : Int) - 1 < l.length := by omega
  have t0 : ((k : Int) == 0) = false := by simp; omega
  have t1 : decide ((0 : Int) < (k : Int)) = true := by simp; omega
  have t2 : decide (0 < k) = true := by simp; omega
  obtain ⟨lo, hi⟩ := hpl
  obtain ⟨W1, hW1⟩ : ∃ W1, Hid (W1 = w.alloc (.cells #[.int .i64 x.level, .int .i64 x.kind, .string ⟨x.name.toArray⟩, .string ⟨x.text.toArray⟩, .slice A' x.attrs.length c'] 50)) := ⟨_, rfl⟩
  have hS : Hid (W1.drew.cell? ⟨w.heap.size, 0, none⟩ = some (.int .i64 x.level) ∧ W1.drew.cell? (ad.add ((k - 1) * 5)) = some (.int .i64 p.level) ∧ W1.drew.cell? ⟨(ad.add ((k - 1) * 5)).block, (ad.add ((k - 1) * 5)).off + 1, none⟩ = some (.int .i64 p.kind)) := by
    refine ⟨?_, ?_, ?_⟩
    · rw [hW1.out]; show (w.alloc _).cell? _ = _; rw [World.cell?_alloc_at _ _ _ _ (by simp)]; rfl
    · rw [hW1.out]; show (w.alloc _).cell? _ = _; rw [World.cell?_alloc_lt _ _ _ (by rw [block_of_add]; exact hbl)]; exact g0
    · rw [hW1.out]; show (w.alloc _).cell? _ = _; rw [World.cell?_alloc_lt _ _ _ (by show (ad.add _).block < _; rw [block_of_add]; exact hbl)]; exact g1
  have hbW : Below w.heap.size w W1 := by rw [hW1.out]; exact (Below.refl _ w).alloc (Nat.le_refl _) _
  have hzW : w.heap.size < W1.heap.size := by rw [hW1.out]; simp
  have hcs : Hid (∀ w', Below W1.heap.size W1 w' → w'.cell? ⟨w.heap.size, 0, none⟩ = some (.int .i64 x.level) ∧ w'.cell? ⟨w.heap.size, 1, none⟩ = some (.int .i64 x.kind) ∧ w'.cell? ⟨w.heap.size, 2, none⟩ = some (.string ⟨x.name.toArray⟩) ∧ w'.cell? ⟨w.heap.size, 3, none⟩ = some (.string ⟨x.text.toArray⟩) ∧ w'.cell? ⟨w.heap.size, 4, none⟩ = some (.slice A' x.attrs.length c')) := fun w' hb => by
    refine ⟨?_, ?_, ?_, ?_, ?_⟩
    all_goals
      rw [hb.cell (by exact hzW), hW1.out, World.cell?_alloc_at _ _ _ _ (by simp)]; rfl
  by_cases c1 : x.level < 1
  · skip
    have hv : Hid (69 = V) := by
      show _ = _
      rw [← hV']
      unfold placeE
      exact (if_pos (.inl c1)).symm
    have d1 : decide (x.level < 1) = true := by simp; omega
    clear hV'
    go_enter Try.func50, Try.ntmps50
    go_wp2_with fail
    rw [← hW1.out]
    refine wp_region_held_drew (S := fun w' => w'.cell? ⟨w.heap.size, 0, none⟩ = some (.int .i64 x.level) ∧ w'.cell? (ad.add ((k - 1) * 5)) = some (.int .i64 p.level) ∧ w'.cell? ⟨(ad.add ((k - 1) * 5)).block, (ad.add ((k - 1) * 5)).off + 1, none⟩ = some (.int .i64 p.kind)) (by kernel_rfl) hS.out (fun hHeld => ?_)
    refine tks (oi := ⟨_, _, _, _, _, _⟩) (v := ?_) 0 rfl (.inl ⟨by rfl, ?_⟩) ?_; rotate_left
    · (intro wS hSw; (try dsimp only at hSw); go_simp); all_goals with_reducible rfl
    try go_frame
    refine tks (oi := ⟨_, _, _, _, _, _⟩) (v := ?_) 1 rfl (.inl ⟨by rfl, ?_⟩) ?_; rotate_left
    · (intro wS hSw; (try dsimp only at hSw); go_simp); all_goals with_reducible rfl
    try go_frame
    refine tks (oi := ⟨_, _, _, _, _, _⟩) (v := ?_) 2 rfl (.inl ⟨by rfl, ?_⟩) ?_; rotate_left
    · (intro wS hSw; (try dsimp only at hSw); go_simp); all_goals with_reducible rfl
    try go_frame
    refine tks (oi := ⟨_, _, _, _, _, _⟩) (v := ?_) 3 rfl (.inl ⟨by rfl, ?_⟩) ?_; rotate_left
    · (intro wS hSw; (try dsimp only at hSw); go_simp); all_goals with_reducible rfl
    try go_frame
    refine tks (oi := ⟨_, _, _, _, _, _⟩) (v := ?_) 4 rfl (.inl ⟨by rfl, ?_⟩) ?_; rotate_left
    · (intro wS hSw; (try dsimp only at hSw); go_simp); all_goals with_reducible rfl
    try go_frame
    refine tks (oi := ⟨_, _, _, _, _, _⟩) (v := ?_) 5 rfl (.inl ⟨by rfl, ?_⟩) ?_; rotate_left
    · (intro wS hSw; (try dsimp only at hSw); go_simp); all_goals with_reducible rfl
    try go_frame
    refine tks (oi := ⟨_, _, _, _, _, _⟩) (v := ?_) 6 rfl (.inl ⟨by rfl, ?_⟩) ?_; rotate_left
    · (intro wS hSw; (try dsimp only at hSw); go_simp); all_goals with_reducible rfl
    try go_frame
    refine tks (oi := ⟨_, _, _, _, _, _⟩) (v := undef) 7 rfl (.inr ⟨by rfl, rfl⟩) ?_
    try go_frame
    refine tks (oi := ⟨_, _, _, _, _, _⟩) (v := undef) 8 rfl (.inr ⟨by rfl, rfl⟩) ?_
    try go_frame
    refine tks (oi := ⟨_, _, _, _, _, _⟩) (v := undef) 9 rfl (.inr ⟨by rfl, rfl⟩) ?_
    try go_frame
    refine tks (oi := ⟨_, _, _, _, _, _⟩) (v := undef) 10 rfl (.inr ⟨by rfl, rfl⟩) ?_
    try go_frame
    refine tks (oi := ⟨_, _, _, _, _, _⟩) (v := undef) 11 rfl (.inr ⟨by rfl, rfl⟩) ?_
    try go_frame
    refine tks (oi := ⟨_, _, _, _, _, _⟩) (v := undef) 12 rfl (.inr ⟨by rfl, rfl⟩) ?_
    try go_frame
    refine tks (oi := ⟨_, _, _, _, _, _⟩) (v := undef) 13 rfl (.inr ⟨by rfl, rfl⟩) ?_
    try go_frame
    refine tks (oi := ⟨_, _, _, _, _, _⟩) (v := undef) 14 rfl (.inr ⟨by rfl, rfl⟩) ?_
    try go_frame
    refine tks (oi := ⟨_, _, _, _, _, _⟩) (v := undef) 15 rfl (.inr ⟨by rfl, rfl⟩) ?_
    try go_frame
    refine tks (oi := ⟨_, _, _, _, _, _⟩) (v := undef) 16 rfl (.inr ⟨by rfl, rfl⟩) ?_
    try go_frame
    refine tks (oi := ⟨_, _, _, _, _, _⟩) (v := ?_) 17 rfl (.inl ⟨by rfl, ?_⟩) ?_; rotate_left
    · (intro wS hSw; (try dsimp only at hSw); go_simp); all_goals with_reducible rfl
    try go_frame
    refine tks (oi := ⟨_, _, _, _, _, _⟩) (v := ?_) 18 rfl (.inl ⟨by rfl, ?_⟩) ?_; rotate_left
    · (intro wS hSw; (try dsimp only at hSw); go_simp); all_goals with_reducible rfl
    try go_frame
    refine tks (oi := ⟨_, _, _, _, _, _⟩) (v := undef) 19 rfl (.inr ⟨by rfl, rfl⟩) ?_
    try go_frame
    refine tks (oi := ⟨_, _, _, _, _, _⟩) (v := undef) 20 rfl (.inr ⟨by rfl, rfl⟩) ?_
    try go_frame
    refine tks (oi := ⟨_, _, _, _, _, _⟩) (v := undef) 21 rfl (.inr ⟨by rfl, rfl⟩) ?_
    try go_frame
    refine tks (oi := ⟨_, _, _, _, _, _⟩) (v := undef) 22 rfl (.inr ⟨by rfl, rfl⟩) ?_
    try go_frame
    refine tks (oi := ⟨_, _, _, _, _, _⟩) (v := undef) 23 rfl (.inr ⟨by rfl, rfl⟩) ?_
    try go_frame
    refine tks (oi := ⟨_, _, _, _, _, _⟩) (v := undef) 24 rfl (.inr ⟨by rfl, rfl⟩) ?_
    try go_frame
    refine tks (oi := ⟨_, _, _, _, _, _⟩) (v := undef) 25 rfl (.inr ⟨by rfl, rfl⟩) ?_
    try go_frame
    refine tks (oi := ⟨_, _, _, _, _, _⟩) (v := undef) 26 rfl (.inr ⟨by rfl, rfl⟩) ?_
    try go_frame
    refine tks (oi := ⟨_, _, _, _, _, _⟩) (v := undef) 27 rfl (.inr ⟨by rfl, rfl⟩) ?_
    try go_frame
    refine tks (oi := ⟨_, _, _, _, _, _⟩) (v := undef) 28 rfl (.inr ⟨by rfl, rfl⟩) ?_
    try go_frame
    refine tks (oi := ⟨_, _, _, _, _, _⟩) (v := undef) 29 rfl (.inr ⟨by rfl, rfl⟩) ?_
    try go_frame
    refine tks (oi := ⟨_, _, _, _, _, _⟩) (v := undef) 30 rfl (.inr ⟨by rfl, rfl⟩) ?_
    try go_frame
    refine tks (oi := ⟨_, _, _, _, _, _⟩) (v := undef) 31 rfl (.inr ⟨by rfl, rfl⟩) ?_
    try go_frame
    refine tks (oi := ⟨_, _, _, _, _, _⟩) (v := undef) 32 rfl (.inr ⟨by rfl, rfl⟩) ?_
    try go_frame
    refine tks (oi := ⟨_, _, _, _, _, _⟩) (v := undef) 33 rfl (.inr ⟨by rfl, rfl⟩) ?_
    try go_frame
    refine tks (oi := ⟨_, _, _, _, _, _⟩) (v := undef) 34 rfl (.inr ⟨by rfl, rfl⟩) ?_
    try go_frame
    refine tks (oi := ⟨_, _, _, _, _, _⟩) (v := undef) 35 rfl (.inr ⟨by rfl, rfl⟩) ?_
    try go_frame
    refine tks (oi := ⟨_, _, _, _, _, _⟩) (v := undef) 36 rfl (.inr ⟨by rfl, rfl⟩) ?_
    try go_frame
    refine tks (oi := ⟨_, _, _, _, _, _⟩) (v := ?_) 37 rfl (.inl ⟨by rfl, ?_⟩) ?_; rotate_left
    · (intro wS hSw; (try dsimp only at hSw); go_simp); all_goals with_reducible rfl
    try go_frame
    refine tks (oi := ⟨_, _, _, _, _, _⟩) (v := ?_) 38 rfl (.inl ⟨by rfl, ?_⟩) ?_; rotate_left
    · (intro wS hSw; (try dsimp only at hSw); go_simp); all_goals with_reducible rfl
    try go_frame
    refine tks (oi := ⟨_, _, _, _, _, _⟩) (v := ?_) 39 rfl (.inl ⟨by rfl, ?_⟩) ?_; rotate_left
    · (intro wS hSw; (try dsimp only at hSw); go_simp); all_goals with_reducible rfl
    try go_frame
    refine wpAnyH_done (by kernel_rfl) ?_ _
    clear hW1
    go_wp2_with fail
    go_ret
    exact ⟨by rw [← hv.out]; rfl, hbW.trans ((Below.refl _ W1).drew.mono (Nat.le_of_lt hzW))⟩
  have n1 : 1 ≤ x.level := by omega
  by_cases c2 : p.level + 1 < x.level
  · skip
    have hv : Hid (69 = V) := by
      show _ = _
      rw [← hV']
      unfold placeE
      exact (if_pos (.inr (.inl c2))).symm
    have d1 : decide (x.level < 1) = false := by simp; omega
    have w1 : IntKind.i64.wrap (p.level + 1) = p.level + 1 := IntWalk.i64_in _ (by omega)
    have d2 : decide (p.level + 1 < x.level) = true := by simp; omega
    have wk : IntKind.i64.wrap ((k : Int) - 1) = (k : Int) - 1 := IntWalk.i64_in _ (by omega)
    have kn : ((k : Int) - 1).toNat = k - 1 := by omega
    clear hV'
    go_enter Try.func50, Try.ntmps50
    go_wp2_with fail
    rw [← hW1.out]
    refine wp_region_held_drew (S := fun w' => w'.cell? ⟨w.heap.size, 0, none⟩ = some (.int .i64 x.level) ∧ w'.cell? (ad.add ((k - 1) * 5)) = some (.int .i64 p.level) ∧ w'.cell? ⟨(ad.add ((k - 1) * 5)).block, (ad.add ((k - 1) * 5)).off + 1, none⟩ = some (.int .i64 p.kind)) (by kernel_rfl) hS.out (fun hHeld => ?_)
    refine tks (oi := ⟨_, _, _, _, _, _⟩) (v := ?_) 0 rfl (.inl ⟨by rfl, ?_⟩) ?_; rotate_left
    · (intro wS hSw; (try dsimp only at hSw); go_simp); all_goals with_reducible rfl
    try go_frame
    refine tks (oi := ⟨_, _, _, _, _, _⟩) (v := ?_) 1 rfl (.inl ⟨by rfl, ?_⟩) ?_; rotate_left
    · (intro wS hSw; (try dsimp only at hSw); go_simp); all_goals with_reducible rfl
    try go_frame
    refine tks (oi := ⟨_, _, _, _, _, _⟩) (v := ?_) 2 rfl (.inl ⟨by rfl, ?_⟩) ?_; rotate_left
    · (intro wS hSw; (try dsimp only at hSw); go_simp); all_goals with_reducible rfl
    try go_frame
    refine tks (oi := ⟨_, _, _, _, _, _⟩) (v := ?_) 3 rfl (.inl ⟨by rfl, ?_⟩) ?_; rotate_left
    · (intro wS hSw; (try dsimp only at hSw); go_simp); all_goals with_reducible rfl
    try go_frame
    refine tks (oi := ⟨_, _, _, _, _, _⟩) (v := ?_) 4 rfl (.inl ⟨by rfl, ?_⟩) ?_; rotate_left
    · (intro wS hSw; (try dsimp only at hSw); go_simp); all_goals with_reducible rfl
    try go_frame
    refine tks (oi := ⟨_, _, _, _, _, _⟩) (v := ?_) 5 rfl (.inl ⟨by rfl, ?_⟩) ?_; rotate_left
    · (intro wS hSw; (try dsimp only at hSw); go_simp); all_goals with_reducible rfl
    try go_frame
    refine tks (oi := ⟨_, _, _, _, _, _⟩) (v := ?_) 6 rfl (.inl ⟨by rfl, ?_⟩) ?_; rotate_left
    · (intro wS hSw; (try dsimp only at hSw); go_simp); all_goals with_reducible rfl
    try go_frame
    refine tks (oi := ⟨_, _, _, _, _, _⟩) (v := ?_) 7 rfl (.inl ⟨by rfl, ?_⟩) ?_; rotate_left
    · (intro wS hSw; (try dsimp only at hSw); go_simp); all_goals with_reducible rfl
    try go_frame
    refine tks (oi := ⟨_, _, _, _, _, _⟩) (v := ?_) 8 rfl (.inl ⟨by rfl, ?_⟩) ?_; rotate_left
    · (intro wS hSw; (try dsimp only at hSw); go_simp); all_goals with_reducible rfl
    try go_frame
    refine tks (oi := ⟨_, _, _, _, _, _⟩) (v := ?_) 9 rfl (.inl ⟨by rfl, ?_⟩) ?_; rotate_left
    · (intro wS hSw; (try dsimp only at hSw); go_simp); all_goals with_reducible rfl
    try go_frame
    refine tks (oi := ⟨_, _, _, _, _, _⟩) (v := ?_) 10 rfl (.inl ⟨by rfl, ?_⟩) ?_; rotate_left
    · (intro wS hSw; (try dsimp only at hSw); go_simp); all_goals with_reducible rfl
    try go_frame
    refine tks (oi := ⟨_, _, _, _, _, _⟩) (v := ?_) 11 rfl (.inl ⟨by rfl, ?_⟩) ?_; rotate_left
    · (intro wS hSw; (try dsimp only at hSw); go_simp); all_goals with_reducible rfl
    try go_frame
    refine tks (oi := ⟨_, _, _, _, _, _⟩) (v := ?_) 12 rfl (.inl ⟨by rfl, ?_⟩) ?_; rotate_left
    · (intro wS hSw; (try dsimp only at hSw); go_simp); all_goals with_reducible rfl
    try go_frame
    refine tks (oi := ⟨_, _, _, _, _, _⟩) (v := ?_) 13 rfl (.inl ⟨by rfl, ?_⟩) ?_; rotate_left
    · (intro wS hSw; (try dsimp only at hSw); go_simp); all_goals with_reducible rfl
    try go_frame
    refine tks (oi := ⟨_, _, _, _, _, _⟩) (v := ?_) 14 rfl (.inl ⟨by rfl, ?_⟩) ?_; rotate_left
    · (intro wS hSw; (try dsimp only at hSw); go_simp); all_goals with_reducible rfl
    try go_frame
    refine tks (oi := ⟨_, _, _, _, _, _⟩) (v := ?_) 15 rfl (.inl ⟨by rfl, ?_⟩) ?_; rotate_left
    · (intro wS hSw; (try dsimp only at hSw); go_simp); all_goals with_reducible rfl
    try go_frame
    refine tks (oi := ⟨_, _, _, _, _, _⟩) (v := ?_) 16 rfl (.inl ⟨by rfl, ?_⟩) ?_; rotate_left
    · (intro wS hSw; (try dsimp only at hSw); go_simp); all_goals with_reducible rfl
    try go_frame
    refine tks (oi := ⟨_, _, _, _, _, _⟩) (v := ?_) 17 rfl (.inl ⟨by rfl, ?_⟩) ?_; rotate_left
    · (intro wS hSw; (try dsimp only at hSw); go_simp); all_goals with_reducible rfl
    try go_frame
    refine tks (oi := ⟨_, _, _, _, _, _⟩) (v := ?_) 18 rfl (.inl ⟨by rfl, ?_⟩) ?_; rotate_left
    · (intro wS hSw; (try dsimp only at hSw); go_simp); all_goals with_reducible rfl
    try go_frame
    refine tks (oi := ⟨_, _, _, _, _, _⟩) (v := undef) 19 rfl (.inr ⟨by rfl, rfl⟩) ?_
    try go_frame
    refine tks (oi := ⟨_, _, _, _, _, _⟩) (v := undef) 20 rfl (.inr ⟨by rfl, rfl⟩) ?_
    try go_frame
    refine tks (oi := ⟨_, _, _, _, _, _⟩) (v := undef) 21 rfl (.inr ⟨by rfl, rfl⟩) ?_
    try go_frame
    refine tks (oi := ⟨_, _, _, _, _, _⟩) (v := undef) 22 rfl (.inr ⟨by rfl, rfl⟩) ?_
    try go_frame
    refine tks (oi := ⟨_, _, _, _, _, _⟩) (v := undef) 23 rfl (.inr ⟨by rfl, rfl⟩) ?_
    try go_frame
    refine tks (oi := ⟨_, _, _, _, _, _⟩) (v := undef) 24 rfl (.inr ⟨by rfl, rfl⟩) ?_
    try go_frame
    refine tks (oi := ⟨_, _, _, _, _, _⟩) (v := undef) 25 rfl (.inr ⟨by rfl, rfl⟩) ?_
    try go_frame
    refine tks (oi := ⟨_, _, _, _, _, _⟩) (v := undef) 26 rfl (.inr ⟨by rfl, rfl⟩) ?_
    try go_frame
    refine tks (oi := ⟨_, _, _, _, _, _⟩) (v := undef) 27 rfl (.inr ⟨by rfl, rfl⟩) ?_
    try go_frame
    refine tks (oi := ⟨_, _, _, _, _, _⟩) (v := undef) 28 rfl (.inr ⟨by rfl, rfl⟩) ?_
    try go_frame
    refine tks (oi := ⟨_, _, _, _, _, _⟩) (v := undef) 29 rfl (.inr ⟨by rfl, rfl⟩) ?_
    try go_frame
    refine tks (oi := ⟨_, _, _, _, _, _⟩) (v := undef) 30 rfl (.inr ⟨by rfl, rfl⟩) ?_
    try go_frame
    refine tks (oi := ⟨_, _, _, _, _, _⟩) (v := undef) 31 rfl (.inr ⟨by rfl, rfl⟩) ?_
    try go_frame
    refine tks (oi := ⟨_, _, _, _, _, _⟩) (v := undef) 32 rfl (.inr ⟨by rfl, rfl⟩) ?_
    try go_frame
    refine tks (oi := ⟨_, _, _, _, _, _⟩) (v := undef) 33 rfl (.inr ⟨by rfl, rfl⟩) ?_
    try go_frame
    refine tks (oi := ⟨_, _, _, _, _, _⟩) (v := undef) 34 rfl (.inr ⟨by rfl, rfl⟩) ?_
    try go_frame
    refine tks (oi := ⟨_, _, _, _, _, _⟩) (v := undef) 35 rfl (.inr ⟨by rfl, rfl⟩) ?_
    try go_frame
    refine tks (oi := ⟨_, _, _, _, _, _⟩) (v := undef) 36 rfl (.inr ⟨by rfl, rfl⟩) ?_
    try go_frame
    refine tks (oi := ⟨_, _, _, _, _, _⟩) (v := ?_) 37 rfl (.inl ⟨by rfl, ?_⟩) ?_; rotate_left
    · (intro wS hSw; (try dsimp only at hSw); go_simp); all_goals with_reducible rfl
    try go_frame
    refine tks (oi := ⟨_, _, _, _, _, _⟩) (v := ?_) 38 rfl (.inl ⟨by rfl, ?_⟩) ?_; rotate_left
    · (intro wS hSw; (try dsimp only at hSw); go_simp); all_goals with_reducible rfl
    try go_frame
    refine tks (oi := ⟨_, _, _, _, _, _⟩) (v := ?_) 39 rfl (.inl ⟨by rfl, ?_⟩) ?_; rotate_left
    · (intro wS hSw; (try dsimp only at hSw); go_simp); all_goals with_reducible rfl
    try go_frame
    refine wpAnyH_done (by kernel_rfl) ?_ _
    clear hW1
    go_wp2_with fail
    go_ret
    exact ⟨by rw [← hv.out]; rfl, hbW.trans ((Below.refl _ W1).drew.mono (Nat.le_of_lt hzW))⟩
  by_cases c3 : p.level < x.level
  · by_cases c4 : p.kind = 2
    · skip
      have hv : Hid (69 = V) := by
        show _ = _
        rw [← hV']
        unfold placeE
        exact (if_pos (.inr (.inr ⟨c3, c4⟩))).symm
      have d1 : decide (x.level < 1) = false := by simp; omega
      have w1 : IntKind.i64.wrap (p.level + 1) = p.level + 1 := IntWalk.i64_in _ (by omega)
      have d2 : decide (p.level + 1 < x.level) = false := by simp; omega
      have d3 : decide (p.level < x.level) = true := by simp; omega
      have d4 : (p.kind == 2) = true := by simp [c4]
      have wk : IntKind.i64.wrap ((k : Int) - 1) = (k : Int) - 1 := IntWalk.i64_in _ (by omega)
      have kn : ((k : Int) - 1).toNat = k - 1 := by omega
      clear hV'
      go_enter Try.func50, Try.ntmps50
      go_wp2_with fail
      rw [← hW1.out]
      refine wp_region_held_drew (S := fun w' => w'.cell? ⟨w.heap.size, 0, none⟩ = some (.int .i64 x.level) ∧ w'.cell? (ad.add ((k - 1) * 5)) = some (.int .i64 p.level) ∧ w'.cell? ⟨(ad.add ((k - 1) * 5)).block, (ad.add ((k - 1) * 5)).off + 1, none⟩ = some (.int .i64 p.kind)) (by kernel_rfl) hS.out (fun hHeld => ?_)
      refine tks (oi := ⟨_, _, _, _, _, _⟩) (v := ?_) 0 rfl (.inl ⟨by rfl, ?_⟩) ?_; rotate_left
      · (intro wS hSw; (try dsimp only at hSw); go_simp); all_goals with_reducible rfl
      try go_frame
      refine tks (oi := ⟨_, _, _, _, _, _⟩) (v := ?_) 1 rfl (.inl ⟨by rfl, ?_⟩) ?_; rotate_left
      · (intro wS hSw; (try dsimp only at hSw); go_simp); all_goals with_reducible rfl
      try go_frame
      refine tks (oi := ⟨_, _, _, _, _, _⟩) (v := ?_) 2 rfl (.inl ⟨by rfl, ?_⟩) ?_; rotate_left
      · (intro wS hSw; (try dsimp only at hSw); go_simp); all_goals with_reducible rfl
      try go_frame
      refine tks (oi := ⟨_, _, _, _, _, _⟩) (v := ?_) 3 rfl (.inl ⟨by rfl, ?_⟩) ?_; rotate_left
      · (intro wS hSw; (try dsimp only at hSw); go_simp); all_goals with_reducible rfl
      try go_frame
      refine tks (oi := ⟨_, _, _, _, _, _⟩) (v := ?_) 4 rfl (.inl ⟨by rfl, ?_⟩) ?_; rotate_left
      · (intro wS hSw; (try dsimp only at hSw); go_simp); all_goals with_reducible rfl
      try go_frame
      refine tks (oi := ⟨_, _, _, _, _, _⟩) (v := ?_) 5 rfl (.inl ⟨by rfl, ?_⟩) ?_; rotate_left
      · (intro wS hSw; (try dsimp only at hSw); go_simp); all_goals with_reducible rfl
      try go_frame
      refine tks (oi := ⟨_, _, _, _, _, _⟩) (v := ?_) 6 rfl (.inl ⟨by rfl, ?_⟩) ?_; rotate_left
      · (intro wS hSw; (try dsimp only at hSw); go_simp); all_goals with_reducible rfl
      try go_frame
      refine tks (oi := ⟨_, _, _, _, _, _⟩) (v := ?_) 7 rfl (.inl ⟨by rfl, ?_⟩) ?_; rotate_left
      · (intro wS hSw; (try dsimp only at hSw); go_simp); all_goals with_reducible rfl
      try go_frame
      refine tks (oi := ⟨_, _, _, _, _, _⟩) (v := ?_) 8 rfl (.inl ⟨by rfl, ?_⟩) ?_; rotate_left
      · (intro wS hSw; (try dsimp only at hSw); go_simp); all_goals with_reducible rfl
      try go_frame
      refine tks (oi := ⟨_, _, _, _, _, _⟩) (v := ?_) 9 rfl (.inl ⟨by rfl, ?_⟩) ?_; rotate_left
      · (intro wS hSw; (try dsimp only at hSw); go_simp); all_goals with_reducible rfl
      try go_frame
      refine tks (oi := ⟨_, _, _, _, _, _⟩) (v := ?_) 10 rfl (.inl ⟨by rfl, ?_⟩) ?_; rotate_left
      · (intro wS hSw; (try dsimp only at hSw); go_simp); all_goals with_reducible rfl
      try go_frame
      refine tks (oi := ⟨_, _, _, _, _, _⟩) (v := ?_) 11 rfl (.inl ⟨by rfl, ?_⟩) ?_; rotate_left
      · (intro wS hSw; (try dsimp only at hSw); go_simp); all_goals with_reducible rfl
      try go_frame
      refine tks (oi := ⟨_, _, _, _, _, _⟩) (v := ?_) 12 rfl (.inl ⟨by rfl, ?_⟩) ?_; rotate_left
      · (intro wS hSw; (try dsimp only at hSw); go_simp); all_goals with_reducible rfl
      try go_frame
      refine tks (oi := ⟨_, _, _, _, _, _⟩) (v := ?_) 13 rfl (.inl ⟨by rfl, ?_⟩) ?_; rotate_left
      · (intro wS hSw; (try dsimp only at hSw); go_simp); all_goals with_reducible rfl
      try go_frame
      refine tks (oi := ⟨_, _, _, _, _, _⟩) (v := ?_) 14 rfl (.inl ⟨by rfl, ?_⟩) ?_; rotate_left
      · (intro wS hSw; (try dsimp only at hSw); go_simp); all_goals with_reducible rfl
      try go_frame
      refine tks (oi := ⟨_, _, _, _, _, _⟩) (v := ?_) 15 rfl (.inl ⟨by rfl, ?_⟩) ?_; rotate_left
      · (intro wS hSw; (try dsimp only at hSw); go_simp); all_goals with_reducible rfl
      try go_frame
      refine tks (oi := ⟨_, _, _, _, _, _⟩) (v := ?_) 16 rfl (.inl ⟨by rfl, ?_⟩) ?_; rotate_left
      · (intro wS hSw; (try dsimp only at hSw); go_simp); all_goals with_reducible rfl
      try go_frame
      refine tks (oi := ⟨_, _, _, _, _, _⟩) (v := ?_) 17 rfl (.inl ⟨by rfl, ?_⟩) ?_; rotate_left
      · (intro wS hSw; (try dsimp only at hSw); go_simp); all_goals with_reducible rfl
      try go_frame
      refine tks (oi := ⟨_, _, _, _, _, _⟩) (v := ?_) 18 rfl (.inl ⟨by rfl, ?_⟩) ?_; rotate_left
      · (intro wS hSw; (try dsimp only at hSw); go_simp); all_goals with_reducible rfl
      try go_frame
      refine tks (oi := ⟨_, _, _, _, _, _⟩) (v := ?_) 19 rfl (.inl ⟨by rfl, ?_⟩) ?_; rotate_left
      · (intro wS hSw; (try dsimp only at hSw); go_simp); all_goals with_reducible rfl
      try go_frame
      refine tks (oi := ⟨_, _, _, _, _, _⟩) (v := ?_) 20 rfl (.inl ⟨by rfl, ?_⟩) ?_; rotate_left
      · (intro wS hSw; (try dsimp only at hSw); go_simp); all_goals with_reducible rfl
      try go_frame
      refine tks (oi := ⟨_, _, _, _, _, _⟩) (v := ?_) 21 rfl (.inl ⟨by rfl, ?_⟩) ?_; rotate_left
      · (intro wS hSw; (try dsimp only at hSw); go_simp); all_goals with_reducible rfl
      try go_frame
      refine tks (oi := ⟨_, _, _, _, _, _⟩) (v := ?_) 22 rfl (.inl ⟨by rfl, ?_⟩) ?_; rotate_left
      · (intro wS hSw; (try dsimp only at hSw); go_simp); all_goals with_reducible rfl
      try go_frame
      refine tks (oi := ⟨_, _, _, _, _, _⟩) (v := ?_) 23 rfl (.inl ⟨by rfl, ?_⟩) ?_; rotate_left
      · (intro wS hSw; (try dsimp only at hSw); go_simp); all_goals with_reducible rfl
      try go_frame
      refine tks (oi := ⟨_, _, _, _, _, _⟩) (v := ?_) 24 rfl (.inl ⟨by rfl, ?_⟩) ?_; rotate_left
      · (intro wS hSw; (try dsimp only at hSw); go_simp); all_goals with_reducible rfl
      try go_frame
      refine tks (oi := ⟨_, _, _, _, _, _⟩) (v := ?_) 25 rfl (.inl ⟨by rfl, ?_⟩) ?_; rotate_left
      · (intro wS hSw; (try dsimp only at hSw); go_simp); all_goals with_reducible rfl
      try go_frame
      refine tks (oi := ⟨_, _, _, _, _, _⟩) (v := ?_) 26 rfl (.inl ⟨by rfl, ?_⟩) ?_; rotate_left
      · (intro wS hSw; (try dsimp only at hSw); go_simp); all_goals with_reducible rfl
      try go_frame
      refine tks (oi := ⟨_, _, _, _, _, _⟩) (v := ?_) 27 rfl (.inl ⟨by rfl, ?_⟩) ?_; rotate_left
      · (intro wS hSw; (try dsimp only at hSw); go_simp); all_goals with_reducible rfl
      try go_frame
      refine tks (oi := ⟨_, _, _, _, _, _⟩) (v := ?_) 28 rfl (.inl ⟨by rfl, ?_⟩) ?_; rotate_left
      · (intro wS hSw; (try dsimp only at hSw); go_simp); all_goals with_reducible rfl
      try go_frame
      refine tks (oi := ⟨_, _, _, _, _, _⟩) (v := ?_) 29 rfl (.inl ⟨by rfl, ?_⟩) ?_; rotate_left
      · (intro wS hSw; (try dsimp only at hSw); go_simp); all_goals with_reducible rfl
      try go_frame
      refine tks (oi := ⟨_, _, _, _, _, _⟩) (v := ?_) 30 rfl (.inl ⟨by rfl, ?_⟩) ?_; rotate_left
      · (intro wS hSw; (try dsimp only at hSw); go_simp); all_goals with_reducible rfl
      try go_frame
      refine tks (oi := ⟨_, _, _, _, _, _⟩) (v := ?_) 31 rfl (.inl ⟨by rfl, ?_⟩) ?_; rotate_left
      · (intro wS hSw; (try dsimp only at hSw); go_simp); all_goals with_reducible rfl
      try go_frame
      refine tks (oi := ⟨_, _, _, _, _, _⟩) (v := ?_) 32 rfl (.inl ⟨by rfl, ?_⟩) ?_; rotate_left
      · (intro wS hSw; (try dsimp only at hSw); go_simp); all_goals with_reducible rfl
      try go_frame
      refine tks (oi := ⟨_, _, _, _, _, _⟩) (v := ?_) 33 rfl (.inl ⟨by rfl, ?_⟩) ?_; rotate_left
      · (intro wS hSw; (try dsimp only at hSw); go_simp); all_goals with_reducible rfl
      try go_frame
      refine tks (oi := ⟨_, _, _, _, _, _⟩) (v := ?_) 34 rfl (.inl ⟨by rfl, ?_⟩) ?_; rotate_left
      · (intro wS hSw; (try dsimp only at hSw); go_simp); all_goals with_reducible rfl
      try go_frame
      refine tks (oi := ⟨_, _, _, _, _, _⟩) (v := ?_) 35 rfl (.inl ⟨by rfl, ?_⟩) ?_; rotate_left
      · (intro wS hSw; (try dsimp only at hSw); go_simp); all_goals with_reducible rfl
      try go_frame
      refine tks (oi := ⟨_, _, _, _, _, _⟩) (v := ?_) 36 rfl (.inl ⟨by rfl, ?_⟩) ?_; rotate_left
      · (intro wS hSw; (try dsimp only at hSw); go_simp); all_goals with_reducible rfl
      try go_frame
      refine tks (oi := ⟨_, _, _, _, _, _⟩) (v := ?_) 37 rfl (.inl ⟨by rfl, ?_⟩) ?_; rotate_left
      · (intro wS hSw; (try dsimp only at hSw); go_simp); all_goals with_reducible rfl
      try go_frame
      refine tks (oi := ⟨_, _, _, _, _, _⟩) (v := ?_) 38 rfl (.inl ⟨by rfl, ?_⟩) ?_; rotate_left
      · (intro wS hSw; (try dsimp only at hSw); go_simp); all_goals with_reducible rfl
      try go_frame
      refine tks (oi := ⟨_, _, _, _, _, _⟩) (v := ?_) 39 rfl (.inl ⟨by rfl, ?_⟩) ?_; rotate_left
      · (intro wS hSw; (try dsimp only at hSw); go_simp); all_goals with_reducible rfl
      try go_frame
      refine wpAnyH_done (by kernel_rfl) ?_ _
      clear hW1
      go_wp2_with fail
      go_ret
      exact ⟨by rw [← hv.out]; rfl, hbW.trans ((Below.refl _ W1).drew.mono (Nat.le_of_lt hzW))⟩
    · skip
      have hpl : placeE (some p) k x = (if 40 ≤ x.level then (42 : Int) else if 1000 ≤ k then 43 else 0) := by unfold placeE; exact if_neg (by omega)
      have hv' : Hid ((if 40 ≤ x.level then (42 : Int) else if 1000 ≤ k then 43 else 0) = V) := by show _ = _; rw [← hV', hpl]
      clear hpl
      have d1 : decide (x.level < 1) = false := by simp; omega
      have w1 : IntKind.i64.wrap (p.level + 1) = p.level + 1 := IntWalk.i64_in _ (by omega)
      have d2 : decide (p.level + 1 < x.level) = false := by simp; omega
      have d3 : decide (p.level < x.level) = true := by simp; omega
      have d4 : (p.kind == 2) = false := by simp [c4]
      have wk : IntKind.i64.wrap ((k : Int) - 1) = (k : Int) - 1 := IntWalk.i64_in _ (by omega)
      have kn : ((k : Int) - 1).toNat = k - 1 := by omega
      clear hV'
      go_enter Try.func50, Try.ntmps50
      go_wp2_with fail
      rw [← hW1.out]
      refine wp_region_held_drew (S := fun w' => w'.cell? ⟨w.heap.size, 0, none⟩ = some (.int .i64 x.level) ∧ w'.cell? (ad.add ((k - 1) * 5)) = some (.int .i64 p.level) ∧ w'.cell? ⟨(ad.add ((k - 1) * 5)).block, (ad.add ((k - 1) * 5)).off + 1, none⟩ = some (.int .i64 p.kind)) (by kernel_rfl) hS.out (fun hHeld => ?_)
      refine tks (oi := ⟨_, _, _, _, _, _⟩) (v := ?_) 0 rfl (.inl ⟨by rfl, ?_⟩) ?_; rotate_left
      · (intro wS hSw; (try dsimp only at hSw); go_simp); all_goals with_reducible rfl
      try go_frame
      refine tks (oi := ⟨_, _, _, _, _, _⟩) (v := ?_) 1 rfl (.inl ⟨by rfl, ?_⟩) ?_; rotate_left
      · (intro wS hSw; (try dsimp only at hSw); go_simp); all_goals with_reducible rfl
      try go_frame
      refine tks (oi := ⟨_, _, _, _, _, _⟩) (v := ?_) 2 rfl (.inl ⟨by rfl, ?_⟩) ?_; rotate_left
      · (intro wS hSw; (try dsimp only at hSw); go_simp); all_goals with_reducible rfl
      try go_frame
      refine tks (oi := ⟨_, _, _, _, _, _⟩) (v := ?_) 3 rfl (.inl ⟨by rfl, ?_⟩) ?_; rotate_left
      · (intro wS hSw; (try dsimp only at hSw); go_simp); all_goals with_reducible rfl
      try go_frame
      refine tks (oi := ⟨_, _, _, _, _, _⟩) (v := ?_) 4 rfl (.inl ⟨by rfl, ?_⟩) ?_; rotate_left
      · (intro wS hSw; (try dsimp only at hSw); go_simp); all_goals with_reducible rfl
      try go_frame
      refine tks (oi := ⟨_, _, _, _, _, _⟩) (v := ?_) 5 rfl (.inl ⟨by rfl, ?_⟩) ?_; rotate_left
      · (intro wS hSw; (try dsimp only at hSw); go_simp); all_goals with_reducible rfl
      try go_frame
      refine tks (oi := ⟨_, _, _, _, _, _⟩) (v := ?_) 6 rfl (.inl ⟨by rfl, ?_⟩) ?_; rotate_left
      · (intro wS hSw; (try dsimp only at hSw); go_simp); all_goals with_reducible rfl
      try go_frame
      refine tks (oi := ⟨_, _, _, _, _, _⟩) (v := ?_) 7 rfl (.inl ⟨by rfl, ?_⟩) ?_; rotate_left
      · (intro wS hSw; (try dsimp only at hSw); go_simp); all_goals with_reducible rfl
      try go_frame
      refine tks (oi := ⟨_, _, _, _, _, _⟩) (v := ?_) 8 rfl (.inl ⟨by rfl, ?_⟩) ?_; rotate_left
      · (intro wS hSw; (try dsimp only at hSw); go_simp); all_goals with_reducible rfl
      try go_frame
      refine tks (oi := ⟨_, _, _, _, _, _⟩) (v := ?_) 9 rfl (.inl ⟨by rfl, ?_⟩) ?_; rotate_left
      · (intro wS hSw; (try dsimp only at hSw); go_simp); all_goals with_reducible rfl
      try go_frame
      refine tks (oi := ⟨_, _, _, _, _, _⟩) (v := ?_) 10 rfl (.inl ⟨by rfl, ?_⟩) ?_; rotate_left
      · (intro wS hSw; (try dsimp only at hSw); go_simp); all_goals with_reducible rfl
      try go_frame
      refine tks (oi := ⟨_, _, _, _, _, _⟩) (v := ?_) 11 rfl (.inl ⟨by rfl, ?_⟩) ?_; rotate_left
      · (intro wS hSw; (try dsimp only at hSw); go_simp); all_goals with_reducible rfl
      try go_frame
      refine tks (oi := ⟨_, _, _, _, _, _⟩) (v := ?_) 12 rfl (.inl ⟨by rfl, ?_⟩) ?_; rotate_left
      · (intro wS hSw; (try dsimp only at hSw); go_simp); all_goals with_reducible rfl
      try go_frame
      refine tks (oi := ⟨_, _, _, _, _, _⟩) (v := ?_) 13 rfl (.inl ⟨by rfl, ?_⟩) ?_; rotate_left
      · (intro wS hSw; (try dsimp only at hSw); go_simp); all_goals with_reducible rfl
      try go_frame
      refine tks (oi := ⟨_, _, _, _, _, _⟩) (v := ?_) 14 rfl (.inl ⟨by rfl, ?_⟩) ?_; rotate_left
      · (intro wS hSw; (try dsimp only at hSw); go_simp); all_goals with_reducible rfl
      try go_frame
      refine tks (oi := ⟨_, _, _, _, _, _⟩) (v := ?_) 15 rfl (.inl ⟨by rfl, ?_⟩) ?_; rotate_left
      · (intro wS hSw; (try dsimp only at hSw); go_simp); all_goals with_reducible rfl
      try go_frame
      refine tks (oi := ⟨_, _, _, _, _, _⟩) (v := ?_) 16 rfl (.inl ⟨by rfl, ?_⟩) ?_; rotate_left
      · (intro wS hSw; (try dsimp only at hSw); go_simp); all_goals with_reducible rfl
      try go_frame
      refine tks (oi := ⟨_, _, _, _, _, _⟩) (v := ?_) 17 rfl (.inl ⟨by rfl, ?_⟩) ?_; rotate_left
      · (intro wS hSw; (try dsimp only at hSw); go_simp); all_goals with_reducible rfl
      try go_frame
      refine tks (oi := ⟨_, _, _, _, _, _⟩) (v := ?_) 18 rfl (.inl ⟨by rfl, ?_⟩) ?_; rotate_left
      · (intro wS hSw; (try dsimp only at hSw); go_simp); all_goals with_reducible rfl
      try go_frame
      refine tks (oi := ⟨_, _, _, _, _, _⟩) (v := ?_) 19 rfl (.inl ⟨by rfl, ?_⟩) ?_; rotate_left
      · (intro wS hSw; (try dsimp only at hSw); go_simp); all_goals with_reducible rfl
      try go_frame
      refine tks (oi := ⟨_, _, _, _, _, _⟩) (v := ?_) 20 rfl (.inl ⟨by rfl, ?_⟩) ?_; rotate_left
      · (intro wS hSw; (try dsimp only at hSw); go_simp); all_goals with_reducible rfl
      try go_frame
      refine tks (oi := ⟨_, _, _, _, _, _⟩) (v := ?_) 21 rfl (.inl ⟨by rfl, ?_⟩) ?_; rotate_left
      · (intro wS hSw; (try dsimp only at hSw); go_simp); all_goals with_reducible rfl
      try go_frame
      refine tks (oi := ⟨_, _, _, _, _, _⟩) (v := ?_) 22 rfl (.inl ⟨by rfl, ?_⟩) ?_; rotate_left
      · (intro wS hSw; (try dsimp only at hSw); go_simp); all_goals with_reducible rfl
      try go_frame
      refine tks (oi := ⟨_, _, _, _, _, _⟩) (v := ?_) 23 rfl (.inl ⟨by rfl, ?_⟩) ?_; rotate_left
      · (intro wS hSw; (try dsimp only at hSw); go_simp); all_goals with_reducible rfl
      try go_frame
      refine tks (oi := ⟨_, _, _, _, _, _⟩) (v := ?_) 24 rfl (.inl ⟨by rfl, ?_⟩) ?_; rotate_left
      · (intro wS hSw; (try dsimp only at hSw); go_simp); all_goals with_reducible rfl
      try go_frame
      refine tks (oi := ⟨_, _, _, _, _, _⟩) (v := ?_) 25 rfl (.inl ⟨by rfl, ?_⟩) ?_; rotate_left
      · (intro wS hSw; (try dsimp only at hSw); go_simp); all_goals with_reducible rfl
      try go_frame
      refine tks (oi := ⟨_, _, _, _, _, _⟩) (v := ?_) 26 rfl (.inl ⟨by rfl, ?_⟩) ?_; rotate_left
      · (intro wS hSw; (try dsimp only at hSw); go_simp); all_goals with_reducible rfl
      try go_frame
      refine tks (oi := ⟨_, _, _, _, _, _⟩) (v := ?_) 27 rfl (.inl ⟨by rfl, ?_⟩) ?_; rotate_left
      · (intro wS hSw; (try dsimp only at hSw); go_simp); all_goals with_reducible rfl
      try go_frame
      refine tks (oi := ⟨_, _, _, _, _, _⟩) (v := ?_) 28 rfl (.inl ⟨by rfl, ?_⟩) ?_; rotate_left
      · (intro wS hSw; (try dsimp only at hSw); go_simp); all_goals with_reducible rfl
      try go_frame
      refine tks (oi := ⟨_, _, _, _, _, _⟩) (v := ?_) 29 rfl (.inl ⟨by rfl, ?_⟩) ?_; rotate_left
      · (intro wS hSw; (try dsimp only at hSw); go_simp); all_goals with_reducible rfl
      try go_frame
      refine tks (oi := ⟨_, _, _, _, _, _⟩) (v := ?_) 30 rfl (.inl ⟨by rfl, ?_⟩) ?_; rotate_left
      · (intro wS hSw; (try dsimp only at hSw); go_simp); all_goals with_reducible rfl
      try go_frame
      refine tks (oi := ⟨_, _, _, _, _, _⟩) (v := ?_) 31 rfl (.inl ⟨by rfl, ?_⟩) ?_; rotate_left
      · (intro wS hSw; (try dsimp only at hSw); go_simp); all_goals with_reducible rfl
      try go_frame
      refine tks (oi := ⟨_, _, _, _, _, _⟩) (v := ?_) 32 rfl (.inl ⟨by rfl, ?_⟩) ?_; rotate_left
      · (intro wS hSw; (try dsimp only at hSw); go_simp); all_goals with_reducible rfl
      try go_frame
      refine tks (oi := ⟨_, _, _, _, _, _⟩) (v := ?_) 33 rfl (.inl ⟨by rfl, ?_⟩) ?_; rotate_left
      · (intro wS hSw; (try dsimp only at hSw); go_simp); all_goals with_reducible rfl
      try go_frame
      refine tks (oi := ⟨_, _, _, _, _, _⟩) (v := ?_) 34 rfl (.inl ⟨by rfl, ?_⟩) ?_; rotate_left
      · (intro wS hSw; (try dsimp only at hSw); go_simp); all_goals with_reducible rfl
      try go_frame
      refine tks (oi := ⟨_, _, _, _, _, _⟩) (v := ?_) 35 rfl (.inl ⟨by rfl, ?_⟩) ?_; rotate_left
      · (intro wS hSw; (try dsimp only at hSw); go_simp); all_goals with_reducible rfl
      try go_frame
      refine tks (oi := ⟨_, _, _, _, _, _⟩) (v := ?_) 36 rfl (.inl ⟨by rfl, ?_⟩) ?_; rotate_left
      · (intro wS hSw; (try dsimp only at hSw); go_simp); all_goals with_reducible rfl
      try go_frame
      refine tks (oi := ⟨_, _, _, _, _, _⟩) (v := ?_) 37 rfl (.inl ⟨by rfl, ?_⟩) ?_; rotate_left
      · (intro wS hSw; (try dsimp only at hSw); go_simp); all_goals with_reducible rfl
      try go_frame
      refine tks (oi := ⟨_, _, _, _, _, _⟩) (v := ?_) 38 rfl (.inl ⟨by rfl, ?_⟩) ?_; rotate_left
      · (intro wS hSw; (try dsimp only at hSw); go_simp); all_goals with_reducible rfl
      try go_frame
      refine tks (oi := ⟨_, _, _, _, _, _⟩) (v := ?_) 39 rfl (.inl ⟨by rfl, ?_⟩) ?_; rotate_left
      · (intro wS hSw; (try dsimp only at hSw); go_simp); all_goals with_reducible rfl
      try go_frame
      refine wpAnyH_done (by kernel_rfl) ?_ _
      clear hW1 wk kn w1 t0 t1 t2 d1 d2 d3
      have hbD : Below W1.heap.size W1 W1.drew := (Below.refl _ W1).drew
      obtain ⟨e0, e1, e2, e3, e4⟩ := hcs.out _ hbD
      have hbD' := hbW.trans (hbD.mono (Nat.le_of_lt hzW))
      by_cases l40 : 40 ≤ x.level
      · have hv : Hid (42 = V) := by show _ = _; rw [← hv'.out, if_pos l40]
        clear hv'
        go_wp2_with fail
        go_ret
        exact ⟨by rw [← hv.out]; rfl, hbD'⟩
      by_cases k1000 : 1000 ≤ k
      · have hv : Hid (43 = V) := by show _ = _; rw [← hv'.out, if_neg l40, if_pos k1000]
        clear hv'
        have k1' : (1000 : Int) ≤ k := by omega
        go_wp2_with fail
        go_ret
        exact ⟨by rw [← hv.out]; rfl, hbD'⟩
      have hv : Hid (0 = V) := by show _ = _; rw [← hv'.out, if_neg l40, if_neg k1000]
      clear hv'
      have k1' : (k : Int) < 1000 := by omega
      have l40' : x.level < 40 := by omega
      go_wp2_with fail
      go_ret
      exact ⟨by rw [← hv.out]; rfl, hbD'⟩
  · skip
    have hpl : placeE (some p) k x = (if 40 ≤ x.level then (42 : Int) else if 1000 ≤ k then 43 else 0) := by unfold placeE; exact if_neg (by omega)
    have hv' : Hid ((if 40 ≤ x.level then (42 : Int) else if 1000 ≤ k then 43 else 0) = V) := by show _ = _; rw [← hV', hpl]
    clear hpl
    have d1 : decide (x.level < 1) = false := by simp; omega
    have w1 : IntKind.i64.wrap (p.level + 1) = p.level + 1 := IntWalk.i64_in _ (by omega)
    have d2 : decide (p.level + 1 < x.level) = false := by simp; omega
    have d3 : decide (p.level < x.level) = false := by simp; omega
    have wk : IntKind.i64.wrap ((k : Int) - 1) = (k : Int) - 1 := IntWalk.i64_in _ (by omega)
    have kn : ((k : Int) - 1).toNat = k - 1 := by omega
    clear hV'
    go_enter Try.func50, Try.ntmps50
    go_wp2_with fail
    rw [← hW1.out]
    refine wp_region_held_drew (S := fun w' => w'.cell? ⟨w.heap.size, 0, none⟩ = some (.int .i64 x.level) ∧ w'.cell? (ad.add ((k - 1) * 5)) = some (.int .i64 p.level) ∧ w'.cell? ⟨(ad.add ((k - 1) * 5)).block, (ad.add ((k - 1) * 5)).off + 1, none⟩ = some (.int .i64 p.kind)) (by kernel_rfl) hS.out (fun hHeld => ?_)
    refine tks (oi := ⟨_, _, _, _, _, _⟩) (v := ?_) 0 rfl (.inl ⟨by rfl, ?_⟩) ?_; rotate_left
    · (intro wS hSw; (try dsimp only at hSw); go_simp); all_goals with_reducible rfl
    try go_frame
    refine tks (oi := ⟨_, _, _, _, _, _⟩) (v := ?_) 1 rfl (.inl ⟨by rfl, ?_⟩) ?_; rotate_left
    · (intro wS hSw; (try dsimp only at hSw); go_simp); all_goals with_reducible rfl
    try go_frame
    refine tks (oi := ⟨_, _, _, _, _, _⟩) (v := ?_) 2 rfl (.inl ⟨by rfl, ?_⟩) ?_; rotate_left
    · (intro wS hSw; (try dsimp only at hSw); go_simp); all_goals with_reducible rfl
    try go_frame
    refine tks (oi := ⟨_, _, _, _, _, _⟩) (v := ?_) 3 rfl (.inl ⟨by rfl, ?_⟩) ?_; rotate_left
    · (intro wS hSw; (try dsimp only at hSw); go_simp); all_goals with_reducible rfl
    try go_frame
    refine tks (oi := ⟨_, _, _, _, _, _⟩) (v := ?_) 4 rfl (.inl ⟨by rfl, ?_⟩) ?_; rotate_left
    · (intro wS hSw; (try dsimp only at hSw); go_simp); all_goals with_reducible rfl
    try go_frame
    refine tks (oi := ⟨_, _, _, _, _, _⟩) (v := ?_) 5 rfl (.inl ⟨by rfl, ?_⟩) ?_; rotate_left
    · (intro wS hSw; (try dsimp only at hSw); go_simp); all_goals with_reducible rfl
    try go_frame
    refine tks (oi := ⟨_, _, _, _, _, _⟩) (v := ?_) 6 rfl (.inl ⟨by rfl, ?_⟩) ?_; rotate_left
    · (intro wS hSw; (try dsimp only at hSw); go_simp); all_goals with_reducible rfl
    try go_frame
    refine tks (oi := ⟨_, _, _, _, _, _⟩) (v := ?_) 7 rfl (.inl ⟨by rfl, ?_⟩) ?_; rotate_left
    · (intro wS hSw; (try dsimp only at hSw); go_simp); all_goals with_reducible rfl
    try go_frame
    refine tks (oi := ⟨_, _, _, _, _, _⟩) (v := ?_) 8 rfl (.inl ⟨by rfl, ?_⟩) ?_; rotate_left
    · (intro wS hSw; (try dsimp only at hSw); go_simp); all_goals with_reducible rfl
    try go_frame
    refine tks (oi := ⟨_, _, _, _, _, _⟩) (v := ?_) 9 rfl (.inl ⟨by rfl, ?_⟩) ?_; rotate_left
    · (intro wS hSw; (try dsimp only at hSw); go_simp); all_goals with_reducible rfl
    try go_frame
    refine tks (oi := ⟨_, _, _, _, _, _⟩) (v := ?_) 10 rfl (.inl ⟨by rfl, ?_⟩) ?_; rotate_left
    · (intro wS hSw; (try dsimp only at hSw); go_simp); all_goals with_reducible rfl
    try go_frame
    refine tks (oi := ⟨_, _, _, _, _, _⟩) (v := ?_) 11 rfl (.inl ⟨by rfl, ?_⟩) ?_; rotate_left
    · (intro wS hSw; (try dsimp only at hSw); go_simp); all_goals with_reducible rfl
    try go_frame
    refine tks (oi := ⟨_, _, _, _, _, _⟩) (v := ?_) 12 rfl (.inl ⟨by rfl, ?_⟩) ?_; rotate_left
    · (intro wS hSw; (try dsimp only at hSw); go_simp); all_goals with_reducible rfl
    try go_frame
    refine tks (oi := ⟨_, _, _, _, _, _⟩) (v := ?_) 13 rfl (.inl ⟨by rfl, ?_⟩) ?_; rotate_left
    · (intro wS hSw; (try dsimp only at hSw); go_simp); all_goals with_reducible rfl
    try go_frame
    refine tks (oi := ⟨_, _, _, _, _, _⟩) (v := ?_) 14 rfl (.inl ⟨by rfl, ?_⟩) ?_; rotate_left
    · (intro wS hSw; (try dsimp only at hSw); go_simp); all_goals with_reducible rfl
    try go_frame
    refine tks (oi := ⟨_, _, _, _, _, _⟩) (v := ?_) 15 rfl (.inl ⟨by rfl, ?_⟩) ?_; rotate_left
    · (intro wS hSw; (try dsimp only at hSw); go_simp); all_goals with_reducible rfl
    try go_frame
    refine tks (oi := ⟨_, _, _, _, _, _⟩) (v := ?_) 16 rfl (.inl ⟨by rfl, ?_⟩) ?_; rotate_left
    · (intro wS hSw; (try dsimp only at hSw); go_simp); all_goals with_reducible rfl
    try go_frame
    refine tks (oi := ⟨_, _, _, _, _, _⟩) (v := ?_) 17 rfl (.inl ⟨by rfl, ?_⟩) ?_; rotate_left
    · (intro wS hSw; (try dsimp only at hSw); go_simp); all_goals with_reducible rfl
    try go_frame
    refine tks (oi := ⟨_, _, _, _, _, _⟩) (v := ?_) 18 rfl (.inl ⟨by rfl, ?_⟩) ?_; rotate_left
    · (intro wS hSw; (try dsimp only at hSw); go_simp); all_goals with_reducible rfl
    try go_frame
    refine tks (oi := ⟨_, _, _, _, _, _⟩) (v := ?_) 19 rfl (.inl ⟨by rfl, ?_⟩) ?_; rotate_left
    · (intro wS hSw; (try dsimp only at hSw); go_simp); all_goals with_reducible rfl
    try go_frame
    refine tks (oi := ⟨_, _, _, _, _, _⟩) (v := ?_) 20 rfl (.inl ⟨by rfl, ?_⟩) ?_; rotate_left
    · (intro wS hSw; (try dsimp only at hSw); go_simp); all_goals with_reducible rfl
    try go_frame
    refine tks (oi := ⟨_, _, _, _, _, _⟩) (v := ?_) 21 rfl (.inl ⟨by rfl, ?_⟩) ?_; rotate_left
    · (intro wS hSw; (try dsimp only at hSw); go_simp); all_goals with_reducible rfl
    try go_frame
    refine tks (oi := ⟨_, _, _, _, _, _⟩) (v := ?_) 22 rfl (.inl ⟨by rfl, ?_⟩) ?_; rotate_left
    · (intro wS hSw; (try dsimp only at hSw); go_simp); all_goals with_reducible rfl
    try go_frame
    refine tks (oi := ⟨_, _, _, _, _, _⟩) (v := ?_) 23 rfl (.inl ⟨by rfl, ?_⟩) ?_; rotate_left
    · (intro wS hSw; (try dsimp only at hSw); go_simp); all_goals with_reducible rfl
    try go_frame
    refine tks (oi := ⟨_, _, _, _, _, _⟩) (v := ?_) 24 rfl (.inl ⟨by rfl, ?_⟩) ?_; rotate_left
    · (intro wS hSw; (try dsimp only at hSw); go_simp); all_goals with_reducible rfl
    try go_frame
    refine tks (oi := ⟨_, _, _, _, _, _⟩) (v := ?_) 25 rfl (.inl ⟨by rfl, ?_⟩) ?_; rotate_left
    · (intro wS hSw; (try dsimp only at hSw); go_simp); all_goals with_reducible rfl
    try go_frame
    refine tks (oi := ⟨_, _, _, _, _, _⟩) (v := ?_) 26 rfl (.inl ⟨by rfl, ?_⟩) ?_; rotate_left
    · (intro wS hSw; (try dsimp only at hSw); go_simp); all_goals with_reducible rfl
    try go_frame
    refine tks (oi := ⟨_, _, _, _, _, _⟩) (v := ?_) 27 rfl (.inl ⟨by rfl, ?_⟩) ?_; rotate_left
    · (intro wS hSw; (try dsimp only at hSw); go_simp); all_goals with_reducible rfl
    try go_frame
    refine tks (oi := ⟨_, _, _, _, _, _⟩) (v := ?_) 28 rfl (.inl ⟨by rfl, ?_⟩) ?_; rotate_left
    · (intro wS hSw; (try dsimp only at hSw); go_simp); all_goals with_reducible rfl
    try go_frame
    refine tks (oi := ⟨_, _, _, _, _, _⟩) (v := undef) 29 rfl (.inr ⟨by rfl, rfl⟩) ?_
    try go_frame
    refine tks (oi := ⟨_, _, _, _, _, _⟩) (v := undef) 30 rfl (.inr ⟨by rfl, rfl⟩) ?_
    try go_frame
    refine tks (oi := ⟨_, _, _, _, _, _⟩) (v := undef) 31 rfl (.inr ⟨by rfl, rfl⟩) ?_
    try go_frame
    refine tks (oi := ⟨_, _, _, _, _, _⟩) (v := undef) 32 rfl (.inr ⟨by rfl, rfl⟩) ?_
    try go_frame
    refine tks (oi := ⟨_, _, _, _, _, _⟩) (v := undef) 33 rfl (.inr ⟨by rfl, rfl⟩) ?_
    try go_frame
    refine tks (oi := ⟨_, _, _, _, _, _⟩) (v := undef) 34 rfl (.inr ⟨by rfl, rfl⟩) ?_
    try go_frame
    refine tks (oi := ⟨_, _, _, _, _, _⟩) (v := undef) 35 rfl (.inr ⟨by rfl, rfl⟩) ?_
    try go_frame
    refine tks (oi := ⟨_, _, _, _, _, _⟩) (v := ?_) 36 rfl (.inl ⟨by rfl, ?_⟩) ?_; rotate_left
    · (intro wS hSw; (try dsimp only at hSw); go_simp); all_goals with_reducible rfl
    try go_frame
    refine tks (oi := ⟨_, _, _, _, _, _⟩) (v := ?_) 37 rfl (.inl ⟨by rfl, ?_⟩) ?_; rotate_left
    · (intro wS hSw; (try dsimp only at hSw); go_simp); all_goals with_reducible rfl
    try go_frame
    refine tks (oi := ⟨_, _, _, _, _, _⟩) (v := ?_) 38 rfl (.inl ⟨by rfl, ?_⟩) ?_; rotate_left
    · (intro wS hSw; (try dsimp only at hSw); go_simp); all_goals with_reducible rfl
    try go_frame
    refine tks (oi := ⟨_, _, _, _, _, _⟩) (v := ?_) 39 rfl (.inl ⟨by rfl, ?_⟩) ?_; rotate_left
    · (intro wS hSw; (try dsimp only at hSw); go_simp); all_goals with_reducible rfl
    try go_frame
    refine wpAnyH_done (by kernel_rfl) ?_ _
    clear hW1 wk kn w1 t0 t1 t2 d1 d2 d3
    have hbD : Below W1.heap.size W1 W1.drew := (Below.refl _ W1).drew
    obtain ⟨e0, e1, e2, e3, e4⟩ := hcs.out _ hbD
    have hbD' := hbW.trans (hbD.mono (Nat.le_of_lt hzW))
    by_cases l40 : 40 ≤ x.level
    · have hv : Hid (42 = V) := by show _ = _; rw [← hv'.out, if_pos l40]
      clear hv'
      go_wp2_with fail
      go_ret
      exact ⟨by rw [← hv.out]; rfl, hbD'⟩
    by_cases k1000 : 1000 ≤ k
    · have hv : Hid (43 = V) := by show _ = _; rw [← hv'.out, if_neg l40, if_pos k1000]
      clear hv'
      have k1' : (1000 : Int) ≤ k := by omega
      go_wp2_with fail
      go_ret
      exact ⟨by rw [← hv.out]; rfl, hbD'⟩
    have hv : Hid (0 = V) := by show _ = _; rw [← hv'.out, if_neg l40, if_neg k1000]
    clear hv'
    have k1' : (k : Int) < 1000 := by omega
    have l40' : x.level < 40 := by omega
    go_wp2_with fail
    go_ret
    exact ⟨by rw [← hv.out]; rfl, hbD'⟩
end Go.Proofs.Ythifddkmbjnncaa

/-
  Texts of this claim, joined (by a program of the claim's author): Place, End, DocPlain.
-/
import Derived.Test.YthifddkmbjnncaaJ1
import Derived.Test.YthifddkmbjnncaaJ2
import Derived.Deep.RegionHeld3
/-
  The walk of parse.place: whether an item may stand where it does.
-/
namespace Go.Proofs.Ythifddkmbjnncaa
open Go.RowKit

theorem ItemsAt.item {w : World} {B : Nat} {ad : Addr} {l : List ItemD} (h : ItemsAt w B (some ad) l) {k : Nat} {x : ItemD} (hx : l[k]? = some x) : ad.block < B ∧ ∃ A' c, AttrsAt w B A' x.attrs ∧ x.attrs.length ≤ c ∧
    w.cell? (ad.add (k * 5)) = some (.int .i64 x.level) ∧ w.cell? ⟨(ad.add (k * 5)).block, (ad.add (k * 5)).off + 1, none⟩ = some (.int .i64 x.kind) ∧ w.cell? ⟨(ad.add (k * 5)).block, (ad.add (k * 5)).off + 2, none⟩ = some (strV x.name) ∧
    w.cell? ⟨(ad.add (k * 5)).block, (ad.add (k * 5)).off + 3, none⟩ = some (strV x.text) ∧ w.cell? ⟨(ad.add (k * 5)).block, (ad.add (k * 5)).off + 4, none⟩ = some (.slice A' x.attrs.length c) := by
  obtain ⟨ad', e, hb, hc⟩ := h (by have := (List.getElem?_eq_some_iff.1 hx).1; omega)
  injection e with e; subst e
  exact ⟨hb, hc k x hx⟩

set_option maxRecDepth 100000 in
set_option maxHeartbeats 2000000 in
theorem place_first (l : List ItemD) (ad : Addr) (c : Nat) (x : ItemD) (w : World) (hA : ItemsAt w w.heap.size (some ad) l) (hx : l[0]? = some x) (_hlen : l.length ≤ 1000000000) (V : Int) (hV : Hid (placeE none 0 x = V)) :
    Calls Try.prog 50 #[.slice (some ad) l.length c, .int .i64 0] w (Ret w (.int .i64 V)) := by
  have hl : 0 < l.length := (List.getElem?_eq_some_iff.1 hx).1
  obtain ⟨hbl, A', c', hat, _, h0, h1, h2, h3, h4⟩ := hA.item hx
  unfold strV at h2 h3
  have ez : ad.add (0 * 5) = ad := by unfold Addr.add; simp
  rw [ez] at h0 h1 h2 h3 h4
  have HAT := Lib.hid hat
  have hV' := hV.out
  clear hA hx ez hat hV
  by_cases c1 : x.level ≠ 0 ∨ x.kind ≠ 1
  · have hv : Hid (69 = V) := by
      show _ = _
      rw [← hV']
      unfold placeE
      exact (if_pos c1).symm
    clear hV'
    by_cases c2 : x.level = 0
    · have d1 : (x.level != 0) = false := by simp [c2]
      have d2 : (x.kind != 1) = true := by simp; omega
      clear c1 c2
      go_enter Try.func50, Try.ntmps50
      go_wp2_with fail
      go_ret
      exact ⟨by rw [← hv.out]; rfl, (Below.refl _ w).alloc (Nat.le_refl _) _⟩
    · have d1 : (x.level != 0) = true := by simp [c2]
      clear c1 c2
      go_enter Try.func50, Try.ntmps50
      go_wp2_with fail
      go_ret
      exact ⟨by rw [← hv.out]; rfl, (Below.refl _ w).alloc (Nat.le_refl _) _⟩
  · have hl0 : x.level = 0 := by omega
    have hk1 : x.kind = 1 := by omega
    have hv : Hid (0 = V) := by
      show _ = _
      rw [← hV']
      unfold placeE
      exact (if_neg c1).symm
    have d1 : (x.level != 0) = false := by simp [hl0]
    have d2 : (x.kind != 1) = false := by simp [hk1]
    have l0 : x.level ≤ 0 := by omega
    clear hV' c1 hk1 hl0
    go_enter Try.func50, Try.ntmps50
    go_wp2_with fail
    refine wp_region_held_drew (S := fun _ => True) (by kernel_rfl) trivial (fun hHeld => ?_)
    refine tk (oi := ⟨_, _, _, _, _, _⟩) (v := ?_) 0 rfl (by kernel_rfl) (fun _ _ _ h => h) (.inl ⟨by rfl, ?_⟩) (by assumption) ?_; rotate_left
    · (intro wS hSw; (try dsimp only at hSw); go_simp); all_goals with_reducible rfl
    try go_frame
    refine tk (oi := ⟨_, _, _, _, _, _⟩) (v := ?_) 1 rfl (by kernel_rfl) (fun _ _ _ h => h) (.inl ⟨by rfl, ?_⟩) (by assumption) ?_; rotate_left
    · (intro wS hSw; (try dsimp only at hSw); go_simp); all_goals with_reducible rfl
    try go_frame
    refine tk (oi := ⟨_, _, _, _, _, _⟩) (v := ?_) 2 rfl (by kernel_rfl) (fun _ _ _ h => h) (.inl ⟨by rfl, ?_⟩) (by assumption) ?_; rotate_left
    · (intro wS hSw; (try dsimp only at hSw); go_simp); all_goals with_reducible rfl
    try go_frame
    refine tk (oi := ⟨_, _, _, _, _, _⟩) (v := undef) 3 rfl (by kernel_rfl) (fun _ _ _ h => h) (.inr ⟨by rfl, rfl⟩) (by assumption) ?_
    try go_frame
    refine tk (oi := ⟨_, _, _, _, _, _⟩) (v := undef) 4 rfl (by kernel_rfl) (fun _ _ _ h => h) (.inr ⟨by rfl, rfl⟩) (by assumption) ?_
    try go_frame
    refine tk (oi := ⟨_, _, _, _, _, _⟩) (v := undef) 5 rfl (by kernel_rfl) (fun _ _ _ h => h) (.inr ⟨by rfl, rfl⟩) (by assumption) ?_
    try go_frame
    refine tk (oi := ⟨_, _, _, _, _, _⟩) (v := undef) 6 rfl (by kernel_rfl) (fun _ _ _ h => h) (.inr ⟨by rfl, rfl⟩) (by assumption) ?_
    try go_frame
    refine tk (oi := ⟨_, _, _, _, _, _⟩) (v := undef) 7 rfl (by kernel_rfl) (fun _ _ _ h => h) (.inr ⟨by rfl, rfl⟩) (by assumption) ?_
    try go_frame
    refine tk (oi := ⟨_, _, _, _, _, _⟩) (v := undef) 8 rfl (by kernel_rfl) (fun _ _ _ h => h) (.inr ⟨by rfl, rfl⟩) (by assumption) ?_
    try go_frame
    refine tk (oi := ⟨_, _, _, _, _, _⟩) (v := undef) 9 rfl (by kernel_rfl) (fun _ _ _ h => h) (.inr ⟨by rfl, rfl⟩) (by assumption) ?_
    try go_frame
    refine tk (oi := ⟨_, _, _, _, _, _⟩) (v := undef) 10 rfl (by kernel_rfl) (fun _ _ _ h => h) (.inr ⟨by rfl, rfl⟩) (by assumption) ?_
    try go_frame
    refine tk (oi := ⟨_, _, _, _, _, _⟩) (v := undef) 11 rfl (by kernel_rfl) (fun _ _ _ h => h) (.inr ⟨by rfl, rfl⟩) (by assumption) ?_
    try go_frame
    refine tk (oi := ⟨_, _, _, _, _, _⟩) (v := undef) 12 rfl (by kernel_rfl) (fun _ _ _ h => h) (.inr ⟨by rfl, rfl⟩) (by assumption) ?_
    try go_frame
    refine tk (oi := ⟨_, _, _, _, _, _⟩) (v := undef) 13 rfl (by kernel_rfl) (fun _ _ _ h => h) (.inr ⟨by rfl, rfl⟩) (by assumption) ?_
    try go_frame
    refine tk (oi := ⟨_, _, _, _, _, _⟩) (v := undef) 14 rfl (by kernel_rfl) (fun _ _ _ h => h) (.inr ⟨by rfl, rfl⟩) (by assumption) ?_
    try go_frame
    refine tk (oi := ⟨_, _, _, _, _, _⟩) (v := undef) 15 rfl (by kernel_rfl) (fun _ _ _ h => h) (.inr ⟨by rfl, rfl⟩) (by assumption) ?_
    try go_frame
    refine tk (oi := ⟨_, _, _, _, _, _⟩) (v := undef) 16 rfl (by kernel_rfl) (fun _ _ _ h => h) (.inr ⟨by rfl, rfl⟩) (by assumption) ?_
    try go_frame
    refine tk (oi := ⟨_, _, _, _, _, _⟩) (v := undef) 17 rfl (by kernel_rfl) (fun _ _ _ h => h) (.inr ⟨by rfl, rfl⟩) (by assumption) ?_
    try go_frame
    refine tk (oi := ⟨_, _, _, _, _, _⟩) (v := undef) 18 rfl (by kernel_rfl) (fun _ _ _ h => h) (.inr ⟨by rfl, rfl⟩) (by assumption) ?_
    try go_frame
    refine tk (oi := ⟨_, _, _, _, _, _⟩) (v := undef) 19 rfl (by kernel_rfl) (fun _ _ _ h => h) (.inr ⟨by rfl, rfl⟩) (by assumption) ?_
    try go_frame
    refine tk (oi := ⟨_, _, _, _, _, _⟩) (v := undef) 20 rfl (by kernel_rfl) (fun _ _ _ h => h) (.inr ⟨by rfl, rfl⟩) (by assumption) ?_
    try go_frame
    refine tk (oi := ⟨_, _, _, _, _, _⟩) (v := undef) 21 rfl (by kernel_rfl) (fun _ _ _ h => h) (.inr ⟨by rfl, rfl⟩) (by assumption) ?_
    try go_frame
    refine tk (oi := ⟨_, _, _, _, _, _⟩) (v := undef) 22 rfl (by kernel_rfl) (fun _ _ _ h => h) (.inr ⟨by rfl, rfl⟩) (by assumption) ?_
    try go_frame
    refine tk (oi := ⟨_, _, _, _, _, _⟩) (v := undef) 23 rfl (by kernel_rfl) (fun _ _ _ h => h) (.inr ⟨by rfl, rfl⟩) (by assumption) ?_
    try go_frame
    refine tk (oi := ⟨_, _, _, _, _, _⟩) (v := undef) 24 rfl (by kernel_rfl) (fun _ _ _ h => h) (.inr ⟨by rfl, rfl⟩) (by assumption) ?_
    try go_frame
    refine tk (oi := ⟨_, _, _, _, _, _⟩) (v := undef) 25 rfl (by kernel_rfl) (fun _ _ _ h => h) (.inr ⟨by rfl, rfl⟩) (by assumption) ?_
    try go_frame
    refine tk (oi := ⟨_, _, _, _, _, _⟩) (v := undef) 26 rfl (by kernel_rfl) (fun _ _ _ h => h) (.inr ⟨by rfl, rfl⟩) (by assumption) ?_
    try go_frame
    refine tk (oi := ⟨_, _, _, _, _, _⟩) (v := undef) 27 rfl (by kernel_rfl) (fun _ _ _ h => h) (.inr ⟨by rfl, rfl⟩) (by assumption) ?_
    try go_frame
    refine tk (oi := ⟨_, _, _, _, _, _⟩) (v := undef) 28 rfl (by kernel_rfl) (fun _ _ _ h => h) (.inr ⟨by rfl, rfl⟩) (by assumption) ?_
    try go_frame
    refine tk (oi := ⟨_, _, _, _, _, _⟩) (v := undef) 29 rfl (by kernel_rfl) (fun _ _ _ h => h) (.inr ⟨by rfl, rfl⟩) (by assumption) ?_
    try go_frame
    refine tk (oi := ⟨_, _, _, _, _, _⟩) (v := undef) 30 rfl (by kernel_rfl) (fun _ _ _ h => h) (.inr ⟨by rfl, rfl⟩) (by assumption) ?_
    try go_frame
    refine tk (oi := ⟨_, _, _, _, _, _⟩) (v := undef) 31 rfl (by kernel_rfl) (fun _ _ _ h => h) (.inr ⟨by rfl, rfl⟩) (by assumption) ?_
    try go_frame
    refine tk (oi := ⟨_, _, _, _, _, _⟩) (v := undef) 32 rfl (by kernel_rfl) (fun _ _ _ h => h) (.inr ⟨by rfl, rfl⟩) (by assumption) ?_
    try go_frame
    refine tk (oi := ⟨_, _, _, _, _, _⟩) (v := undef) 33 rfl (by kernel_rfl) (fun _ _ _ h => h) (.inr ⟨by rfl, rfl⟩) (by assumption) ?_
    try go_frame
    refine tk (oi := ⟨_, _, _, _, _, _⟩) (v := undef) 34 rfl (by kernel_rfl) (fun _ _ _ h => h) (.inr ⟨by rfl, rfl⟩) (by assumption) ?_
    try go_frame
    refine tk (oi := ⟨_, _, _, _, _, _⟩) (v := undef) 35 rfl (by kernel_rfl) (fun _ _ _ h => h) (.inr ⟨by rfl, rfl⟩) (by assumption) ?_
    try go_frame
    refine tk (oi := ⟨_, _, _, _, _, _⟩) (v := undef) 36 rfl (by kernel_rfl) (fun _ _ _ h => h) (.inr ⟨by rfl, rfl⟩) (by assumption) ?_
    try go_frame
    refine tk (oi := ⟨_, _, _, _, _, _⟩) (v := undef) 37 rfl (by kernel_rfl) (fun _ _ _ h => h) (.inr ⟨by rfl, rfl⟩) (by assumption) ?_
    try go_frame
    refine tk (oi := ⟨_, _, _, _, _, _⟩) (v := ?_) 38 rfl (by kernel_rfl) (fun _ _ _ h => h) (.inl ⟨by rfl, ?_⟩) (by assumption) ?_; rotate_left
    · (intro wS hSw; (try dsimp only at hSw); go_simp); all_goals with_reducible rfl
    try go_frame
    refine tk (oi := ⟨_, _, _, _, _, _⟩) (v := ?_) 39 rfl (by kernel_rfl) (fun _ _ _ h => h) (.inl ⟨by rfl, ?_⟩) (by assumption) ?_; rotate_left
    · (intro wS hSw; (try dsimp only at hSw); go_simp); all_goals with_reducible rfl
    try go_frame
    refine wpAnyH_done (by kernel_rfl) ?_ _
    go_wp2_with fail
    go_ret
    exact ⟨by rw [← hv.out]; rfl, ((Below.refl _ w).alloc (Nat.le_refl _) _).drew⟩

set_option maxRecDepth 100000 in
set_option maxHeartbeats 4000000 in
theorem place_later (l : List ItemD) (ad : Addr) (c k : Nat) (x p : ItemD) (w : World) (hA : ItemsAt w w.heap.size (some ad) l) (hk0 : 0 < k) (hx : l[k]? = some x) (hp : l[k - 1]? = some p) (hlen : l.length ≤ 1000000000) (hpl : -9000000000000000000 ≤ p.level ∧ p.level ≤ 9000000000000000000) (V : Int) (hV : Hid (placeE (some p) k x = V)) :
    Calls Try.prog 50 #[.slice (some ad) l.length c, .int .i64 k] w (Ret w (.int .i64 V)) := by
  have hl : k < l.length := (List.getElem?_eq_some_iff.1 hx).1
  obtain ⟨hbl, A', c', hat, _, h0, h1, h2, h3, h4⟩ := hA.item hx
  obtain ⟨_, A2, c2, _, _, g0, g1, _, _, _⟩ := hA.item hp
  unfold strV at h2 h3
  have HAT := Lib.hid hat
  have hV' := hV.out
  clear hA hx hp hV hat
  have i1 : (0 : Int) ≤ (k : Int) := by omega
  have i2 : (1 : Int) ≤ (k : Int) := by omega
  have i3 : (k : Int) < l.length := by omega
  have i4 : (0 : Int) ≤ (k : Int) - 1 := by omega
  have i5 : (k : Int) - 1 < l.length := by omega
  have t0 : ((k : Int) == 0) = false := by simp; omega
  have t1 : decide ((0 : Int) < (k : Int)) = true := by simp; omega
  have t2 : decide (0 < k) = true := by simp; omega
  obtain ⟨lo, hi⟩ := hpl
  obtain ⟨W1, hW1⟩ : ∃ W1, Hid (W1 = w.alloc (.cells #[.int .i64 x.level, .int .i64 x.kind, .string ⟨x.name.toArray⟩, .string ⟨x.text.toArray⟩, .slice A' x.attrs.length c'] 50)) := ⟨_, rfl⟩
  have hS : Hid (W1.drew.cell? ⟨w.heap.size, 0, none⟩ = some (.int .i64 x.level) ∧ W1.drew.cell? (ad.add ((k - 1) * 5)) = some (.int .i64 p.level) ∧ W1.drew.cell? ⟨(ad.add ((k - 1) * 5)).block, (ad.add ((k - 1) * 5)).off + 1, none⟩ = some (.int .i64 p.kind)) := by
    refine ⟨?_, ?_, ?_⟩
    · rw [hW1.out]; show (w.alloc _).cell? _ = _; rw [World.cell?_alloc_at _ _ _ _ (by simp)]; rfl
    · rw [hW1.out]; show (w.alloc _).cell? _ = _; rw [World.cell?_alloc_lt _ _ _ (by rw [block_of_add]; exact hbl)]; exact g0
    · rw [hW1.out]; show (w.alloc _).cell? _ = _; rw [World.cell?_alloc_lt _ _ _ (by show (ad.add _).block < _; rw [block_of_add]; exact hbl)]; exact g1
  have hbW : Below w.heap.size w W1 := by rw [hW1.out]; exact (Below.refl _ w).alloc (Nat.le_refl _) _
  have hzW : w.heap.size < W1.heap.size := by rw [hW1.out]; simp
  have hcs : Hid (∀ w', Below W1.heap.size W1 w' → w'.cell? ⟨w.heap.size, 0, none⟩ = some (.int .i64 x.level) ∧ w'.cell? ⟨w.heap.size, 1, none⟩ = some (.int .i64 x.kind) ∧ w'.cell? ⟨w.heap.size, 2, none⟩ = some (.string ⟨x.name.toArray⟩) ∧ w'.cell? ⟨w.heap.size, 3, none⟩ = some (.string ⟨x.text.toArray⟩) ∧ w'.cell? ⟨w.heap.size, 4, none⟩ = some (.slice A' x.attrs.length c')) := fun w' hb => by
    refine ⟨?_, ?_, ?_, ?_, ?_⟩
    all_goals
      rw [hb.cell (by exact hzW), hW1.out, World.cell?_alloc_at _ _ _ _ (by simp)]; rfl
  by_cases c1 : x.level < 1
  · skip
    have hv : Hid (69 = V) := by
      show _ = _
      rw [← hV']
      unfold placeE
      exact (if_pos (.inl c1)).symm
    have d1 : decide (x.level < 1) = true := by simp; omega
    clear hV'
    go_enter Try.func50, Try.ntmps50
    go_wp2_with fail
    rw [← hW1.out]
    refine wp_region_held_drew (S := fun w' => w'.cell? ⟨w.heap.size, 0, none⟩ = some (.int .i64 x.level) ∧ w'.cell? (ad.add ((k - 1) * 5)) = some (.int .i64 p.level) ∧ w'.cell? ⟨(ad.add ((k - 1) * 5)).block, (ad.add ((k - 1) * 5)).off + 1, none⟩ = some (.int .i64 p.kind)) (by kernel_rfl) hS.out (fun hHeld => ?_)
    refine tk (oi := ⟨_, _, _, _, _, _⟩) (v := ?_) 0 rfl (by kernel_rfl) (fun _ _ _ h => h) (.inl ⟨by rfl, ?_⟩) (by assumption) ?_; rotate_left
    · (intro wS hSw; (try dsimp only at hSw); go_simp); all_goals with_reducible rfl
    try go_frame
    refine tk (oi := ⟨_, _, _, _, _, _⟩) (v := ?_) 1 rfl (by kernel_rfl) (fun _ _ _ h => h) (.inl ⟨by rfl, ?_⟩) (by assumption) ?_; rotate_left
    · (intro wS hSw; (try dsimp only at hSw); go_simp); all_goals with_reducible rfl
    try go_frame
    refine tk (oi := ⟨_, _, _, _, _, _⟩) (v := ?_) 2 rfl (by kernel_rfl) (fun _ _ _ h => h) (.inl ⟨by rfl, ?_⟩) (by assumption) ?_; rotate_left
    · (intro wS hSw; (try dsimp only at hSw); go_simp); all_goals with_reducible rfl
    try go_frame
    refine tk (oi := ⟨_, _, _, _, _, _⟩) (v := ?_) 3 rfl (by kernel_rfl) (fun _ _ _ h => h) (.inl ⟨by rfl, ?_⟩) (by assumption) ?_; rotate_left
    · (intro wS hSw; (try dsimp only at hSw); go_simp); all_goals with_reducible rfl
    try go_frame
    refine tk (oi := ⟨_, _, _, _, _, _⟩) (v := ?_) 4 rfl (by kernel_rfl) (fun _ _ _ h => h) (.inl ⟨by rfl, ?_⟩) (by assumption) ?_; rotate_left
    · (intro wS hSw; (try dsimp only at hSw); go_simp); all_goals with_reducible rfl
    try go_frame
    refine tk (oi := ⟨_, _, _, _, _, _⟩) (v := ?_) 5 rfl (by kernel_rfl) (fun _ _ _ h => h) (.inl ⟨by rfl, ?_⟩) (by assumption) ?_; rotate_left
    · (intro wS hSw; (try dsimp only at hSw); go_simp); all_goals with_reducible rfl
    try go_frame
    refine tk (oi := ⟨_, _, _, _, _, _⟩) (v := ?_) 6 rfl (by kernel_rfl) (fun _ _ _ h => h) (.inl ⟨by rfl, ?_⟩) (by assumption) ?_; rotate_left
    · (intro wS hSw; (try dsimp only at hSw); go_simp); all_goals with_reducible rfl
    try go_frame
    refine tk (oi := ⟨_, _, _, _, _, _⟩) (v := undef) 7 rfl (by kernel_rfl) (fun _ _ _ h => h) (.inr ⟨by rfl, rfl⟩) (by assumption) ?_
    try go_frame
    refine tk (oi := ⟨_, _, _, _, _, _⟩) (v := undef) 8 rfl (by kernel_rfl) (fun _ _ _ h => h) (.inr ⟨by rfl, rfl⟩) (by assumption) ?_
    try go_frame
    refine tk (oi := ⟨_, _, _, _, _, _⟩) (v := undef) 9 rfl (by kernel_rfl) (fun _ _ _ h => h) (.inr ⟨by rfl, rfl⟩) (by assumption) ?_
    try go_frame
    refine tk (oi := ⟨_, _, _, _, _, _⟩) (v := undef) 10 rfl (by kernel_rfl) (fun _ _ _ h => h) (.inr ⟨by rfl, rfl⟩) (by assumption) ?_
    try go_frame
    refine tk (oi := ⟨_, _, _, _, _, _⟩) (v := undef) 11 rfl (by kernel_rfl) (fun _ _ _ h => h) (.inr ⟨by rfl, rfl⟩) (by assumption) ?_
    try go_frame
    refine tk (oi := ⟨_, _, _, _, _, _⟩) (v := undef) 12 rfl (by kernel_rfl) (fun _ _ _ h => h) (.inr ⟨by rfl, rfl⟩) (by assumption) ?_
    try go_frame
    refine tk (oi := ⟨_, _, _, _, _, _⟩) (v := undef) 13 rfl (by kernel_rfl) (fun _ _ _ h => h) (.inr ⟨by rfl, rfl⟩) (by assumption) ?_
    try go_frame
    refine tk (oi := ⟨_, _, _, _, _, _⟩) (v := undef) 14 rfl (by kernel_rfl) (fun _ _ _ h => h) (.inr ⟨by rfl, rfl⟩) (by assumption) ?_
    try go_frame
    refine tk (oi := ⟨_, _, _, _, _, _⟩) (v := undef) 15 rfl (by kernel_rfl) (fun _ _ _ h => h) (.inr ⟨by rfl, rfl⟩) (by assumption) ?_
    try go_frame
    refine tk (oi := ⟨_, _, _, _, _, _⟩) (v := undef) 16 rfl (by kernel_rfl) (fun _ _ _ h => h) (.inr ⟨by rfl, rfl⟩) (by assumption) ?_
    try go_frame
    refine tk (oi := ⟨_, _, _, _, _, _⟩) (v := ?_) 17 rfl (by kernel_rfl) (fun _ _ _ h => h) (.inl ⟨by rfl, ?_⟩) (by assumption) ?_; rotate_left
    · (intro wS hSw; (try dsimp only at hSw); go_simp); all_goals with_reducible rfl
    try go_frame
    refine tk (oi := ⟨_, _, _, _, _, _⟩) (v := ?_) 18 rfl (by kernel_rfl) (fun _ _ _ h => h) (.inl ⟨by rfl, ?_⟩) (by assumption) ?_; rotate_left
    · (intro wS hSw; (try dsimp only at hSw); go_simp); all_goals with_reducible rfl
    try go_frame
    refine tk (oi := ⟨_, _, _, _, _, _⟩) (v := undef) 19 rfl (by kernel_rfl) (fun _ _ _ h => h) (.inr ⟨by rfl, rfl⟩) (by assumption) ?_
    try go_frame
    refine tk (oi := ⟨_, _, _, _, _, _⟩) (v := undef) 20 rfl (by kernel_rfl) (fun _ _ _ h => h) (.inr ⟨by rfl, rfl⟩) (by assumption) ?_
    try go_frame
    refine tk (oi := ⟨_, _, _, _, _, _⟩) (v := undef) 21 rfl (by kernel_rfl) (fun _ _ _ h => h) (.inr ⟨by rfl, rfl⟩) (by assumption) ?_
    try go_frame
    refine tk (oi := ⟨_, _, _, _, _, _⟩) (v := undef) 22 rfl (by kernel_rfl) (fun _ _ _ h => h) (.inr ⟨by rfl, rfl⟩) (by assumption) ?_
    try go_frame
    refine tk (oi := ⟨_, _, _, _, _, _⟩) (v := undef) 23 rfl (by kernel_rfl) (fun _ _ _ h => h) (.inr ⟨by rfl, rfl⟩) (by assumption) ?_
    try go_frame
    refine tk (oi := ⟨_, _, _, _, _, _⟩) (v := undef) 24 rfl (by kernel_rfl) (fun _ _ _ h => h) (.inr ⟨by rfl, rfl⟩) (by assumption) ?_
    try go_frame
    refine tk (oi := ⟨_, _, _, _, _, _⟩) (v := undef) 25 rfl (by kernel_rfl) (fun _ _ _ h => h) (.inr ⟨by rfl, rfl⟩) (by assumption) ?_
    try go_frame
    refine tk (oi := ⟨_, _, _, _, _, _⟩) (v := undef) 26 rfl (by kernel_rfl) (fun _ _ _ h => h) (.inr ⟨by rfl, rfl⟩) (by assumption) ?_
    try go_frame
    refine tk (oi := ⟨_, _, _, _, _, _⟩) (v := undef) 27 rfl (by kernel_rfl) (fun _ _ _ h => h) (.inr ⟨by rfl, rfl⟩) (by assumption) ?_
    try go_frame
    refine tk (oi := ⟨_, _, _, _, _, _⟩) (v := undef) 28 rfl (by kernel_rfl) (fun _ _ _ h => h) (.inr ⟨by rfl, rfl⟩) (by assumption) ?_
    try go_frame
    refine tk (oi := ⟨_, _, _, _, _, _⟩) (v := undef) 29 rfl (by kernel_rfl) (fun _ _ _ h => h) (.inr ⟨by rfl, rfl⟩) (by assumption) ?_
    try go_frame
    refine tk (oi := ⟨_, _, _, _, _, _⟩) (v := undef) 30 rfl (by kernel_rfl) (fun _ _ _ h => h) (.inr ⟨by rfl, rfl⟩) (by assumption) ?_
    try go_frame
    refine tk (oi := ⟨_, _, _, _, _, _⟩) (v := undef) 31 rfl (by kernel_rfl) (fun _ _ _ h => h) (.inr ⟨by rfl, rfl⟩) (by assumption) ?_
    try go_frame
    refine tk (oi := ⟨_, _, _, _, _, _⟩) (v := undef) 32 rfl (by kernel_rfl) (fun _ _ _ h => h) (.inr ⟨by rfl, rfl⟩) (by assumption) ?_
    try go_frame
    refine tk (oi := ⟨_, _, _, _, _, _⟩) (v := undef) 33 rfl (by kernel_rfl) (fun _ _ _ h => h) (.inr ⟨by rfl, rfl⟩) (by assumption) ?_
    try go_frame
    refine tk (oi := ⟨_, _, _, _, _, _⟩) (v := undef) 34 rfl (by kernel_rfl) (fun _ _ _ h => h) (.inr ⟨by rfl, rfl⟩) (by assumption) ?_
    try go_frame
    refine tk (oi := ⟨_, _, _, _, _, _⟩) (v := undef) 35 rfl (by kernel_rfl) (fun _ _ _ h => h) (.inr ⟨by rfl, rfl⟩) (by assumption) ?_
    try go_frame
    refine tk (oi := ⟨_, _, _, _, _, _⟩) (v := undef) 36 rfl (by kernel_rfl) (fun _ _ _ h => h) (.inr ⟨by rfl, rfl⟩) (by assumption) ?_
    try go_frame
    refine tk (oi := ⟨_, _, _, _, _, _⟩) (v := ?_) 37 rfl (by kernel_rfl) (fun _ _ _ h => h) (.inl ⟨by rfl, ?_⟩) (by assumption) ?_; rotate_left
    · (intro wS hSw; (try dsimp only at hSw); go_simp); all_goals with_reducible rfl
    try go_frame
    refine tk (oi := ⟨_, _, _, _, _, _⟩) (v := ?_) 38 rfl (by kernel_rfl) (fun _ _ _ h => h) (.inl ⟨by rfl, ?_⟩) (by assumption) ?_; rotate_left
    · (intro wS hSw; (try dsimp only at hSw); go_simp); all_goals with_reducible rfl
    try go_frame
    refine tk (oi := ⟨_, _, _, _, _, _⟩) (v := ?_) 39 rfl (by kernel_rfl) (fun _ _ _ h => h) (.inl ⟨by rfl, ?_⟩) (by assumption) ?_; rotate_left
    · (intro wS hSw; (try dsimp only at hSw); go_simp); all_goals with_reducible rfl
    try go_frame
    refine wpAnyH_done (by kernel_rfl) ?_ _
    clear hW1
    go_wp2_with fail
    go_ret
    exact ⟨by rw [← hv.out]; rfl, hbW.trans ((Below.refl _ W1).drew.mono (Nat.le_of_lt hzW))⟩
  have n1 : 1 ≤ x.level := by omega
  by_cases c2 : p.level + 1 < x.level
  · skip
    have hv : Hid (69 = V) := by
      show _ = _
      rw [← hV']
      unfold placeE
      exact (if_pos (.inr (.inl c2))).symm
    have d1 : decide (x.level < 1) = false := by simp; omega
    have w1 : IntKind.i64.wrap (p.level + 1) = p.level + 1 := IntWalk.i64_in _ (by omega)
    have d2 : decide (p.level + 1 < x.level) = true := by simp; omega
    have wk : IntKind.i64.wrap ((k : Int) - 1) = (k : Int) - 1 := IntWalk.i64_in _ (by omega)
    have kn : ((k : Int) - 1).toNat = k - 1 := by omega
    clear hV'
    go_enter Try.func50, Try.ntmps50
    go_wp2_with fail
    rw [← hW1.out]
    refine wp_region_held_drew (S := fun w' => w'.cell? ⟨w.heap.size, 0, none⟩ = some (.int .i64 x.level) ∧ w'.cell? (ad.add ((k - 1) * 5)) = some (.int .i64 p.level) ∧ w'.cell? ⟨(ad.add ((k - 1) * 5)).block, (ad.add ((k - 1) * 5)).off + 1, none⟩ = some (.int .i64 p.kind)) (by kernel_rfl) hS.out (fun hHeld => ?_)
    refine tk (oi := ⟨_, _, _, _, _, _⟩) (v := ?_) 0 rfl (by kernel_rfl) (fun _ _ _ h => h) (.inl ⟨by rfl, ?_⟩) (by assumption) ?_; rotate_left
    · (intro wS hSw; (try dsimp only at hSw); go_simp); all_goals with_reducible rfl
    try go_frame
    refine tk (oi := ⟨_, _, _, _, _, _⟩) (v := ?_) 1 rfl (by kernel_rfl) (fun _ _ _ h => h) (.inl ⟨by rfl, ?_⟩) (by assumption) ?_; rotate_left
    · (intro wS hSw; (try dsimp only at hSw); go_simp); all_goals with_reducible rfl
    try go_frame
    refine tk (oi := ⟨_, _, _, _, _, _⟩) (v := ?_) 2 rfl (by kernel_rfl) (fun _ _ _ h => h) (.inl ⟨by rfl, ?_⟩) (by assumption) ?_; rotate_left
    · (intro wS hSw; (try dsimp only at hSw); go_simp); all_goals with_reducible rfl
    try go_frame
    refine tk (oi := ⟨_, _, _, _, _, _⟩) (v := ?_) 3 rfl (by kernel_rfl) (fun _ _ _ h => h) (.inl ⟨by rfl, ?_⟩) (by assumption) ?_; rotate_left
    · (intro wS hSw; (try dsimp only at hSw); go_simp); all_goals with_reducible rfl
    try go_frame
    refine tk (oi := ⟨_, _, _, _, _, _⟩) (v := ?_) 4 rfl (by kernel_rfl) (fun _ _ _ h => h) (.inl ⟨by rfl, ?_⟩) (by assumption) ?_; rotate_left
    · (intro wS hSw; (try dsimp only at hSw); go_simp); all_goals with_reducible rfl
    try go_frame
    refine tk (oi := ⟨_, _, _, _, _, _⟩) (v := ?_) 5 rfl (by kernel_rfl) (fun _ _ _ h => h) (.inl ⟨by rfl, ?_⟩) (by assumption) ?_; rotate_left
    · (intro wS hSw; (try dsimp only at hSw); go_simp); all_goals with_reducible rfl
    try go_frame
    refine tk (oi := ⟨_, _, _, _, _, _⟩) (v := ?_) 6 rfl (by kernel_rfl) (fun _ _ _ h => h) (.inl ⟨by rfl, ?_⟩) (by assumption) ?_; rotate_left
    · (intro wS hSw; (try dsimp only at hSw); go_simp); all_goals with_reducible rfl
    try go_frame
    refine tk (oi := ⟨_, _, _, _, _, _⟩) (v := ?_) 7 rfl (by kernel_rfl) (fun _ _ _ h => h) (.inl ⟨by rfl, ?_⟩) (by assumption) ?_; rotate_left
    · (intro wS hSw; (try dsimp only at hSw); go_simp); all_goals with_reducible rfl
    try go_frame
    refine tk (oi := ⟨_, _, _, _, _, _⟩) (v := ?_) 8 rfl (by kernel_rfl) (fun _ _ _ h => h) (.inl ⟨by rfl, ?_⟩) (by assumption) ?_; rotate_left
    · (intro wS hSw; (try dsimp only at hSw); go_simp); all_goals with_reducible rfl
    try go_frame
    refine tk (oi := ⟨_, _, _, _, _, _⟩) (v := ?_) 9 rfl (by kernel_rfl) (fun _ _ _ h => h) (.inl ⟨by rfl, ?_⟩) (by assumption) ?_; rotate_left
    · (intro wS hSw; (try dsimp only at hSw); go_simp); all_goals with_reducible rfl
    try go_frame
    refine tk (oi := ⟨_, _, _, _, _, _⟩) (v := ?_) 10 rfl (by kernel_rfl) (fun _ _ _ h => h) (.inl ⟨by rfl, ?_⟩) (by assumption) ?_; rotate_left
    · (intro wS hSw; (try dsimp only at hSw); go_simp); all_goals with_reducible rfl
    try go_frame
    refine tk (oi := ⟨_, _, _, _, _, _⟩) (v := ?_) 11 rfl (by kernel_rfl) (fun _ _ _ h => h) (.inl ⟨by rfl, ?_⟩) (by assumption) ?_; rotate_left
    · (intro wS hSw; (try dsimp only at hSw); go_simp); all_goals with_reducible rfl
    try go_frame
    refine tk (oi := ⟨_, _, _, _, _, _⟩) (v := ?_) 12 rfl (by kernel_rfl) (fun _ _ _ h => h) (.inl ⟨by rfl, ?_⟩) (by assumption) ?_; rotate_left
    · (intro wS hSw; (try dsimp only at hSw); go_simp); all_goals with_reducible rfl
    try go_frame
    refine tk (oi := ⟨_, _, _, _, _, _⟩) (v := ?_) 13 rfl (by kernel_rfl) (fun _ _ _ h => h) (.inl ⟨by rfl, ?_⟩) (by assumption) ?_; rotate_left
    · (intro wS hSw; (try dsimp only at hSw); go_simp); all_goals with_reducible rfl
    try go_frame
    refine tk (oi := ⟨_, _, _, _, _, _⟩) (v := ?_) 14 rfl (by kernel_rfl) (fun _ _ _ h => h) (.inl ⟨by rfl, ?_⟩) (by assumption) ?_; rotate_left
    · (intro wS hSw; (try dsimp only at hSw); go_simp); all_goals with_reducible rfl
    try go_frame
    refine tk (oi := ⟨_, _, _, _, _, _⟩) (v := ?_) 15 rfl (by kernel_rfl) (fun _ _ _ h => h) (.inl ⟨by rfl, ?_⟩) (by assumption) ?_; rotate_left
    · (intro wS hSw; (try dsimp only at hSw); go_simp); all_goals with_reducible rfl
    try go_frame
    refine tk (oi := ⟨_, _, _, _, _, _⟩) (v := ?_) 16 rfl (by kernel_rfl) (fun _ _ _ h => h) (.inl ⟨by rfl, ?_⟩) (by assumption) ?_; rotate_left
    · (intro wS hSw; (try dsimp only at hSw); go_simp); all_goals with_reducible rfl
    try go_frame
    refine tk (oi := ⟨_, _, _, _, _, _⟩) (v := ?_) 17 rfl (by kernel_rfl) (fun _ _ _ h => h) (.inl ⟨by rfl, ?_⟩) (by assumption) ?_; rotate_left
    · (intro wS hSw; (try dsimp only at hSw); go_simp); all_goals with_reducible rfl
    try go_frame
    refine tk (oi := ⟨_, _, _, _, _, _⟩) (v := ?_) 18 rfl (by kernel_rfl) (fun _ _ _ h => h) (.inl ⟨by rfl, ?_⟩) (by assumption) ?_; rotate_left
    · (intro wS hSw; (try dsimp only at hSw); go_simp); all_goals with_reducible rfl
    try go_frame
    refine tk (oi := ⟨_, _, _, _, _, _⟩) (v := undef) 19 rfl (by kernel_rfl) (fun _ _ _ h => h) (.inr ⟨by rfl, rfl⟩) (by assumption) ?_
    try go_frame
    refine tk (oi := ⟨_, _, _, _, _, _⟩) (v := undef) 20 rfl (by kernel_rfl) (fun _ _ _ h => h) (.inr ⟨by rfl, rfl⟩) (by assumption) ?_
    try go_frame
    refine tk (oi := ⟨_, _, _, _, _, _⟩) (v := undef) 21 rfl (by kernel_rfl) (fun _ _ _ h => h) (.inr ⟨by rfl, rfl⟩) (by assumption) ?_
    try go_frame
    refine tk (oi := ⟨_, _, _, _, _, _⟩) (v := undef) 22 rfl (by kernel_rfl) (fun _ _ _ h => h) (.inr ⟨by rfl, rfl⟩) (by assumption) ?_
    try go_frame
    refine tk (oi := ⟨_, _, _, _, _, _⟩) (v := undef) 23 rfl (by kernel_rfl) (fun _ _ _ h => h) (.inr ⟨by rfl, rfl⟩) (by assumption) ?_
    try go_frame
    refine tk (oi := ⟨_, _, _, _, _, _⟩) (v := undef) 24 rfl (by kernel_rfl) (fun _ _ _ h => h) (.inr ⟨by rfl, rfl⟩) (by assumption) ?_
    try go_frame
    refine tk (oi := ⟨_, _, _, _, _, _⟩) (v := undef) 25 rfl (by kernel_rfl) (fun _ _ _ h => h) (.inr ⟨by rfl, rfl⟩) (by assumption) ?_
    try go_frame
    refine tk (oi := ⟨_, _, _, _, _, _⟩) (v := undef) 26 rfl (by kernel_rfl) (fun _ _ _ h => h) (.inr ⟨by rfl, rfl⟩) (by assumption) ?_
    try go_frame
    refine tk (oi := ⟨_, _, _, _, _, _⟩) (v := undef) 27 rfl (by kernel_rfl) (fun _ _ _ h => h) (.inr ⟨by rfl, rfl⟩) (by assumption) ?_
    try go_frame
    refine tk (oi := ⟨_, _, _, _, _, _⟩) (v := undef) 28 rfl (by kernel_rfl) (fun _ _ _ h => h) (.inr ⟨by rfl, rfl⟩) (by assumption) ?_
    try go_frame
    refine tk (oi := ⟨_, _, _, _, _, _⟩) (v := undef) 29 rfl (by kernel_rfl) (fun _ _ _ h => h) (.inr ⟨by rfl, rfl⟩) (by assumption) ?_
    try go_frame
    refine tk (oi := ⟨_, _, _, _, _, _⟩) (v := undef) 30 rfl (by kernel_rfl) (fun _ _ _ h => h) (.inr ⟨by rfl, rfl⟩) (by assumption) ?_
    try go_frame
    refine tk (oi := ⟨_, _, _, _, _, _⟩) (v := undef) 31 rfl (by kernel_rfl) (fun _ _ _ h => h) (.inr ⟨by rfl, rfl⟩) (by assumption) ?_
    try go_frame
    refine tk (oi := ⟨_, _, _, _, _, _⟩) (v := undef) 32 rfl (by kernel_rfl) (fun _ _ _ h => h) (.inr ⟨by rfl, rfl⟩) (by assumption) ?_
    try go_frame
    refine tk (oi := ⟨_, _, _, _, _, _⟩) (v := undef) 33 rfl (by kernel_rfl) (fun _ _ _ h => h) (.inr ⟨by rfl, rfl⟩) (by assumption) ?_
    try go_frame
    refine tk (oi := ⟨_, _, _, _, _, _⟩) (v := undef) 34 rfl (by kernel_rfl) (fun _ _ _ h => h) (.inr ⟨by rfl, rfl⟩) (by assumption) ?_
    try go_frame
    refine tk (oi := ⟨_, _, _, _, _, _⟩) (v := undef) 35 rfl (by kernel_rfl) (fun _ _ _ h => h) (.inr ⟨by rfl, rfl⟩) (by assumption) ?_
    try go_frame
    refine tk (oi := ⟨_, _, _, _, _, _⟩) (v := undef) 36 rfl (by kernel_rfl) (fun _ _ _ h => h) (.inr ⟨by rfl, rfl⟩) (by assumption) ?_
    try go_frame
    refine tk (oi := ⟨_, _, _, _, _, _⟩) (v := ?_) 37 rfl (by kernel_rfl) (fun _ _ _ h => h) (.inl ⟨by rfl, ?_⟩) (by assumption) ?_; rotate_left
    · (intro wS hSw; (try dsimp only at hSw); go_simp); all_goals with_reducible rfl
    try go_frame
    refine tk (oi := ⟨_, _, _, _, _, _⟩) (v := ?_) 38 rfl (by kernel_rfl) (fun _ _ _ h => h) (.inl ⟨by rfl, ?_⟩) (by assumption) ?_; rotate_left
    · (intro wS hSw; (try dsimp only at hSw); go_simp); all_goals with_reducible rfl
    try go_frame
    refine tk (oi := ⟨_, _, _, _, _, _⟩) (v := ?_) 39 rfl (by kernel_rfl) (fun _ _ _ h => h) (.inl ⟨by rfl, ?_⟩) (by assumption) ?_; rotate_left
    · (intro wS hSw; (try dsimp only at hSw); go_simp); all_goals with_reducible rfl
    try go_frame
    refine wpAnyH_done (by kernel_rfl) ?_ _
    clear hW1
    go_wp2_with fail
    go_ret
    exact ⟨by rw [← hv.out]; rfl, hbW.trans ((Below.refl _ W1).drew.mono (Nat.le_of_lt hzW))⟩
  by_cases c3 : p.level < x.level
  · by_cases c4 : p.kind = 2
    · skip
      have hv : Hid (69 = V) := by
        show _ = _
        rw [← hV']
        unfold placeE
        exact (if_pos (.inr (.inr ⟨c3, c4⟩))).symm
      have d1 : decide (x.level < 1) = false := by simp; omega
      have w1 : IntKind.i64.wrap (p.level + 1) = p.level + 1 := IntWalk.i64_in _ (by omega)
      have d2 : decide (p.level + 1 < x.level) = false := by simp; omega
      have d3 : decide (p.level < x.level) = true := by simp; omega
      have d4 : (p.kind == 2) = true := by simp [c4]
      have wk : IntKind.i64.wrap ((k : Int) - 1) = (k : Int) - 1 := IntWalk.i64_in _ (by omega)
      have kn : ((k : Int) - 1).toNat = k - 1 := by omega
      clear hV'
      go_enter Try.func50, Try.ntmps50
      go_wp2_with fail
      rw [← hW1.out]
      refine wp_region_held_drew (S := fun w' => w'.cell? ⟨w.heap.size, 0, none⟩ = some (.int .i64 x.level) ∧ w'.cell? (ad.add ((k - 1) * 5)) = some (.int .i64 p.level) ∧ w'.cell? ⟨(ad.add ((k - 1) * 5)).block, (ad.add ((k - 1) * 5)).off + 1, none⟩ = some (.int .i64 p.kind)) (by kernel_rfl) hS.out (fun hHeld => ?_)
      refine tk (oi := ⟨_, _, _, _, _, _⟩) (v := ?_) 0 rfl (by kernel_rfl) (fun _ _ _ h => h) (.inl ⟨by rfl, ?_⟩) (by assumption) ?_; rotate_left
      · (intro wS hSw; (try dsimp only at hSw); go_simp); all_goals with_reducible rfl
      try go_frame
      refine tk (oi := ⟨_, _, _, _, _, _⟩) (v := ?_) 1 rfl (by kernel_rfl) (fun _ _ _ h => h) (.inl ⟨by rfl, ?_⟩) (by assumption) ?_; rotate_left
      · (intro wS hSw; (try dsimp only at hSw); go_simp); all_goals with_reducible rfl
      try go_frame
      refine tk (oi := ⟨_, _, _, _, _, _⟩) (v := ?_) 2 rfl (by kernel_rfl) (fun _ _ _ h => h) (.inl ⟨by rfl, ?_⟩) (by assumption) ?_; rotate_left
      · (intro wS hSw; (try dsimp only at hSw); go_simp); all_goals with_reducible rfl
      try go_frame
      refine tk (oi := ⟨_, _, _, _, _, _⟩) (v := ?_) 3 rfl (by kernel_rfl) (fun _ _ _ h => h) (.inl ⟨by rfl, ?_⟩) (by assumption) ?_; rotate_left
      · (intro wS hSw; (try dsimp only at hSw); go_simp); all_goals with_reducible rfl
      try go_frame
      refine tk (oi := ⟨_, _, _, _, _, _⟩) (v := ?_) 4 rfl (by kernel_rfl) (fun _ _ _ h => h) (.inl ⟨by rfl, ?_⟩) (by assumption) ?_; rotate_left
      · (intro wS hSw; (try dsimp only at hSw); go_simp); all_goals with_reducible rfl
      try go_frame
      refine tk (oi := ⟨_, _, _, _, _, _⟩) (v := ?_) 5 rfl (by kernel_rfl) (fun _ _ _ h => h) (.inl ⟨by rfl, ?_⟩) (by assumption) ?_; rotate_left
      · (intro wS hSw; (try dsimp only at hSw); go_simp); all_goals with_reducible rfl
      try go_frame
      refine tk (oi := ⟨_, _, _, _, _, _⟩) (v := ?_) 6 rfl (by kernel_rfl) (fun _ _ _ h => h) (.inl ⟨by rfl, ?_⟩) (by assumption) ?_; rotate_left
      · (intro wS hSw; (try dsimp only at hSw); go_simp); all_goals with_reducible rfl
      try go_frame
      refine tk (oi := ⟨_, _, _, _, _, _⟩) (v := ?_) 7 rfl (by kernel_rfl) (fun _ _ _ h => h) (.inl ⟨by rfl, ?_⟩) (by assumption) ?_; rotate_left
      · (intro wS hSw; (try dsimp only at hSw); go_simp); all_goals with_reducible rfl
      try go_frame
      refine tk (oi := ⟨_, _, _, _, _, _⟩) (v := ?_) 8 rfl (by kernel_rfl) (fun _ _ _ h => h) (.inl ⟨by rfl, ?_⟩) (by assumption) ?_; rotate_left
      · (intro wS hSw; (try dsimp only at hSw); go_simp); all_goals with_reducible rfl
      try go_frame
      refine tk (oi := ⟨_, _, _, _, _, _⟩) (v := ?_) 9 rfl (by kernel_rfl) (fun _ _ _ h => h) (.inl ⟨by rfl, ?_⟩) (by assumption) ?_; rotate_left
      · (intro wS hSw; (try dsimp only at hSw); go_simp); all_goals with_reducible rfl
      try go_frame
      refine tk (oi := ⟨_, _, _, _, _, _⟩) (v := ?_) 10 rfl (by kernel_rfl) (fun _ _ _ h => h) (.inl ⟨by rfl, ?_⟩) (by assumption) ?_; rotate_left
      · (intro wS hSw; (try dsimp only at hSw); go_simp); all_goals with_reducible rfl
      try go_frame
      refine tk (oi := ⟨_, _, _, _, _, _⟩) (v := ?_) 11 rfl (by kernel_rfl) (fun _ _ _ h => h) (.inl ⟨by rfl, ?_⟩) (by assumption) ?_; rotate_left
      · (intro wS hSw; (try dsimp only at hSw); go_simp); all_goals with_reducible rfl
      try go_frame
      refine tk (oi := ⟨_, _, _, _, _, _⟩) (v := ?_) 12 rfl (by kernel_rfl) (fun _ _ _ h => h) (.inl ⟨by rfl, ?_⟩) (by assumption) ?_; rotate_left
      · (intro wS hSw; (try dsimp only at hSw); go_simp); all_goals with_reducible rfl
      try go_frame
      refine tk (oi := ⟨_, _, _, _, _, _⟩) (v := ?_) 13 rfl (by kernel_rfl) (fun _ _ _ h => h) (.inl ⟨by rfl, ?_⟩) (by assumption) ?_; rotate_left
      · (intro wS hSw; (try dsimp only at hSw); go_simp); all_goals with_reducible rfl
      try go_frame
      refine tk (oi := ⟨_, _, _, _, _, _⟩) (v := ?_) 14 rfl (by kernel_rfl) (fun _ _ _ h => h) (.inl ⟨by rfl, ?_⟩) (by assumption) ?_; rotate_left
      · (intro wS hSw; (try dsimp only at hSw); go_simp); all_goals with_reducible rfl
      try go_frame
      refine tk (oi := ⟨_, _, _, _, _, _⟩) (v := ?_) 15 rfl (by kernel_rfl) (fun _ _ _ h => h) (.inl ⟨by rfl, ?_⟩) (by assumption) ?_; rotate_left
      · (intro wS hSw; (try dsimp only at hSw); go_simp); all_goals with_reducible rfl
      try go_frame
      refine tk (oi := ⟨_, _, _, _, _, _⟩) (v := ?_) 16 rfl (by kernel_rfl) (fun _ _ _ h => h) (.inl ⟨by rfl, ?_⟩) (by assumption) ?_; rotate_left
      · (intro wS hSw; (try dsimp only at hSw); go_simp); all_goals with_reducible rfl
      try go_frame
      refine tk (oi := ⟨_, _, _, _, _, _⟩) (v := ?_) 17 rfl (by kernel_rfl) (fun _ _ _ h => h) (.inl ⟨by rfl, ?_⟩) (by assumption) ?_; rotate_left
      · (intro wS hSw; (try dsimp only at hSw); go_simp); all_goals with_reducible rfl
      try go_frame
      refine tk (oi := ⟨_, _, _, _, _, _⟩) (v := ?_) 18 rfl (by kernel_rfl) (fun _ _ _ h => h) (.inl ⟨by rfl, ?_⟩) (by assumption) ?_; rotate_left
      · (intro wS hSw; (try dsimp only at hSw); go_simp); all_goals with_reducible rfl
      try go_frame
      refine tk (oi := ⟨_, _, _, _, _, _⟩) (v := ?_) 19 rfl (by kernel_rfl) (fun _ _ _ h => h) (.inl ⟨by rfl, ?_⟩) (by assumption) ?_; rotate_left
      · (intro wS hSw; (try dsimp only at hSw); go_simp); all_goals with_reducible rfl
      try go_frame
      refine tk (oi := ⟨_, _, _, _, _, _⟩) (v := ?_) 20 rfl (by kernel_rfl) (fun _ _ _ h => h) (.inl ⟨by rfl, ?_⟩) (by assumption) ?_; rotate_left
      · (intro wS hSw; (try dsimp only at hSw); go_simp); all_goals with_reducible rfl
      try go_frame
      refine tk (oi := ⟨_, _, _, _, _, _⟩) (v := ?_) 21 rfl (by kernel_rfl) (fun _ _ _ h => h) (.inl ⟨by rfl, ?_⟩) (by assumption) ?_; rotate_left
      · (intro wS hSw; (try dsimp only at hSw); go_simp); all_goals with_reducible rfl
      try go_frame
      refine tk (oi := ⟨_, _, _, _, _, _⟩) (v := ?_) 22 rfl (by kernel_rfl) (fun _ _ _ h => h) (.inl ⟨by rfl, ?_⟩) (by assumption) ?_; rotate_left
      · (intro wS hSw; (try dsimp only at hSw); go_simp); all_goals with_reducible rfl
      try go_frame
      refine tk (oi := ⟨_, _, _, _, _, _⟩) (v := ?_) 23 rfl (by kernel_rfl) (fun _ _ _ h => h) (.inl ⟨by rfl, ?_⟩) (by assumption) ?_; rotate_left
      · (intro wS hSw; (try dsimp only at hSw); go_simp); all_goals with_reducible rfl
      try go_frame
      refine tk (oi := ⟨_, _, _, _, _, _⟩) (v := ?_) 24 rfl (by kernel_rfl) (fun _ _ _ h => h) (.inl ⟨by rfl, ?_⟩) (by assumption) ?_; rotate_left
      · (intro wS hSw; (try dsimp only at hSw); go_simp); all_goals with_reducible rfl
      try go_frame
      refine tk (oi := ⟨_, _, _, _, _, _⟩) (v := ?_) 25 rfl (by kernel_rfl) (fun _ _ _ h => h) (.inl ⟨by rfl, ?_⟩) (by assumption) ?_; rotate_left
      · (intro wS hSw; (try dsimp only at hSw); go_simp); all_goals with_reducible rfl
      try go_frame
      refine tk (oi := ⟨_, _, _, _, _, _⟩) (v := ?_) 26 rfl (by kernel_rfl) (fun _ _ _ h => h) (.inl ⟨by rfl, ?_⟩) (by assumption) ?_; rotate_left
      · (intro wS hSw; (try dsimp only at hSw); go_simp); all_goals with_reducible rfl
      try go_frame
      refine tk (oi := ⟨_, _, _, _, _, _⟩) (v := ?_) 27 rfl (by kernel_rfl) (fun _ _ _ h => h) (.inl ⟨by rfl, ?_⟩) (by assumption) ?_; rotate_left
      · (intro wS hSw; (try dsimp only at hSw); go_simp); all_goals with_reducible rfl
      try go_frame
      refine tk (oi := ⟨_, _, _, _, _, _⟩) (v := ?_) 28 rfl (by kernel_rfl) (fun _ _ _ h => h) (.inl ⟨by rfl, ?_⟩) (by assumption) ?_; rotate_left
      · (intro wS hSw; (try dsimp only at hSw); go_simp); all_goals with_reducible rfl
      try go_frame
      refine tk (oi := ⟨_, _, _, _, _, _⟩) (v := ?_) 29 rfl (by kernel_rfl) (fun _ _ _ h => h) (.inl ⟨by rfl, ?_⟩) (by assumption) ?_; rotate_left
      · (intro wS hSw; (try dsimp only at hSw); go_simp); all_goals with_reducible rfl
      try go_frame
      refine tk (oi := ⟨_, _, _, _, _, _⟩) (v := ?_) 30 rfl (by kernel_rfl) (fun _ _ _ h => h) (.inl ⟨by rfl, ?_⟩) (by assumption) ?_; rotate_left
      · (intro wS hSw; (try dsimp only at hSw); go_simp); all_goals with_reducible rfl
      try go_frame
      refine tk (oi := ⟨_, _, _, _, _, _⟩) (v := ?_) 31 rfl (by kernel_rfl) (fun _ _ _ h => h) (.inl ⟨by rfl, ?_⟩) (by assumption) ?_; rotate_left
      · (intro wS hSw; (try dsimp only at hSw); go_simp); all_goals with_reducible rfl
      try go_frame
      refine tk (oi := ⟨_, _, _, _, _, _⟩) (v := ?_) 32 rfl (by kernel_rfl) (fun _ _ _ h => h) (.inl ⟨by rfl, ?_⟩) (by assumption) ?_; rotate_left
      · (intro wS hSw; (try dsimp only at hSw); go_simp); all_goals with_reducible rfl
      try go_frame
      refine tk (oi := ⟨_, _, _, _, _, _⟩) (v := ?_) 33 rfl (by kernel_rfl) (fun _ _ _ h => h) (.inl ⟨by rfl, ?_⟩) (by assumption) ?_; rotate_left
      · (intro wS hSw; (try dsimp only at hSw); go_simp); all_goals with_reducible rfl
      try go_frame
      refine tk (oi := ⟨_, _, _, _, _, _⟩) (v := ?_) 34 rfl (by kernel_rfl) (fun _ _ _ h => h) (.inl ⟨by rfl, ?_⟩) (by assumption) ?_; rotate_left
      · (intro wS hSw; (try dsimp only at hSw); go_simp); all_goals with_reducible rfl
      try go_frame
      refine tk (oi := ⟨_, _, _, _, _, _⟩) (v := ?_) 35 rfl (by kernel_rfl) (fun _ _ _ h => h) (.inl ⟨by rfl, ?_⟩) (by assumption) ?_; rotate_left
      · (intro wS hSw; (try dsimp only at hSw); go_simp); all_goals with_reducible rfl
      try go_frame
      refine tk (oi := ⟨_, _, _, _, _, _⟩) (v := ?_) 36 rfl (by kernel_rfl) (fun _ _ _ h => h) (.inl ⟨by rfl, ?_⟩) (by assumption) ?_; rotate_left
      · (intro wS hSw; (try dsimp only at hSw); go_simp); all_goals with_reducible rfl
      try go_frame
      refine tk (oi := ⟨_, _, _, _, _, _⟩) (v := ?_) 37 rfl (by kernel_rfl) (fun _ _ _ h => h) (.inl ⟨by rfl, ?_⟩) (by assumption) ?_; rotate_left
      · (intro wS hSw; (try dsimp only at hSw); go_simp); all_goals with_reducible rfl
      try go_frame
      refine tk (oi := ⟨_, _, _, _, _, _⟩) (v := ?_) 38 rfl (by kernel_rfl) (fun _ _ _ h => h) (.inl ⟨by rfl, ?_⟩) (by assumption) ?_; rotate_left
      · (intro wS hSw; (try dsimp only at hSw); go_simp); all_goals with_reducible rfl
      try go_frame
      refine tk (oi := ⟨_, _, _, _, _, _⟩) (v := ?_) 39 rfl (by kernel_rfl) (fun _ _ _ h => h) (.inl ⟨by rfl, ?_⟩) (by assumption) ?_; rotate_left
      · (intro wS hSw; (try dsimp only at hSw); go_simp); all_goals with_reducible rfl
      try go_frame
      refine wpAnyH_done (by kernel_rfl) ?_ _
      clear hW1
      go_wp2_with fail
      go_ret
      exact ⟨by rw [← hv.out]; rfl, hbW.trans ((Below.refl _ W1).drew.mono (Nat.le_of_lt hzW))⟩
    · skip
      have hpl : placeE (some p) k x = (if 40 ≤ x.level then (42 : Int) else if 1000 ≤ k then 43 else 0) := by unfold placeE; exact if_neg (by omega)
      have hv' : Hid ((if 40 ≤ x.level then (42 : Int) else if 1000 ≤ k then 43 else 0) = V) := by show _ = _; rw [← hV', hpl]
      clear hpl
      have d1 : decide (x.level < 1) = false := by simp; omega
      have w1 : IntKind.i64.wrap (p.level + 1) = p.level + 1 := IntWalk.i64_in _ (by omega)
      have d2 : decide (p.level + 1 < x.level) = false := by simp; omega
      have d3 : decide (p.level < x.level) = true := by simp; omega
      have d4 : (p.kind == 2) = false := by simp [c4]
      have wk : IntKind.i64.wrap ((k : Int) - 1) = (k : Int) - 1 := IntWalk.i64_in _ (by omega)
      have kn : ((k : Int) - 1).toNat = k - 1 := by omega
      clear hV'
      go_enter Try.func50, Try.ntmps50
      go_wp2_with fail
      rw [← hW1.out]
      refine wp_region_held_drew (S := fun w' => w'.cell? ⟨w.heap.size, 0, none⟩ = some (.int .i64 x.level) ∧ w'.cell? (ad.add ((k - 1) * 5)) = some (.int .i64 p.level) ∧ w'.cell? ⟨(ad.add ((k - 1) * 5)).block, (ad.add ((k - 1) * 5)).off + 1, none⟩ = some (.int .i64 p.kind)) (by kernel_rfl) hS.out (fun hHeld => ?_)
      refine tk (oi := ⟨_, _, _, _, _, _⟩) (v := ?_) 0 rfl (by kernel_rfl) (fun _ _ _ h => h) (.inl ⟨by rfl, ?_⟩) (by assumption) ?_; rotate_left
      · (intro wS hSw; (try dsimp only at hSw); go_simp); all_goals with_reducible rfl
      try go_frame
      refine tk (oi := ⟨_, _, _, _, _, _⟩) (v := ?_) 1 rfl (by kernel_rfl) (fun _ _ _ h => h) (.inl ⟨by rfl, ?_⟩) (by assumption) ?_; rotate_left
      · (intro wS hSw; (try dsimp only at hSw); go_simp); all_goals with_reducible rfl
      try go_frame
      refine tk (oi := ⟨_, _, _, _, _, _⟩) (v := ?_) 2 rfl (by kernel_rfl) (fun _ _ _ h => h) (.inl ⟨by rfl, ?_⟩) (by assumption) ?_; rotate_left
      · (intro wS hSw; (try dsimp only at hSw); go_simp); all_goals with_reducible rfl
      try go_frame
      refine tk (oi := ⟨_, _, _, _, _, _⟩) (v := ?_) 3 rfl (by kernel_rfl) (fun _ _ _ h => h) (.inl ⟨by rfl, ?_⟩) (by assumption) ?_; rotate_left
      · (intro wS hSw; (try dsimp only at hSw); go_simp); all_goals with_reducible rfl
      try go_frame
      refine tk (oi := ⟨_, _, _, _, _, _⟩) (v := ?_) 4 rfl (by kernel_rfl) (fun _ _ _ h => h) (.inl ⟨by rfl, ?_⟩) (by assumption) ?_; rotate_left
      · (intro wS hSw; (try dsimp only at hSw); go_simp); all_goals with_reducible rfl
      try go_frame
      refine tk (oi := ⟨_, _, _, _, _, _⟩) (v := ?_) 5 rfl (by kernel_rfl) (fun _ _ _ h => h) (.inl ⟨by rfl, ?_⟩) (by assumption) ?_; rotate_left
      · (intro wS hSw; (try dsimp only at hSw); go_simp); all_goals with_reducible rfl
      try go_frame
      refine tk (oi := ⟨_, _, _, _, _, _⟩) (v := ?_) 6 rfl (by kernel_rfl) (fun _ _ _ h => h) (.inl ⟨by rfl, ?_⟩) (by assumption) ?_; rotate_left
      · (intro wS hSw; (try dsimp only at hSw); go_simp); all_goals with_reducible rfl
      try go_frame
      refine tk (oi := ⟨_, _, _, _, _, _⟩) (v := ?_) 7 rfl (by kernel_rfl) (fun _ _ _ h => h) (.inl ⟨by rfl, ?_⟩) (by assumption) ?_; rotate_left
      · (intro wS hSw; (try dsimp only at hSw); go_simp); all_goals with_reducible rfl
      try go_frame
      refine tk (oi := ⟨_, _, _, _, _, _⟩) (v := ?_) 8 rfl (by kernel_rfl) (fun _ _ _ h => h) (.inl ⟨by rfl, ?_⟩) (by assumption) ?_; rotate_left
      · (intro wS hSw; (try dsimp only at hSw); go_simp); all_goals with_reducible rfl
      try go_frame
      refine tk (oi := ⟨_, _, _, _, _, _⟩) (v := ?_) 9 rfl (by kernel_rfl) (fun _ _ _ h => h) (.inl ⟨by rfl, ?_⟩) (by assumption) ?_; rotate_left
      · (intro wS hSw; (try dsimp only at hSw); go_simp); all_goals with_reducible rfl
      try go_frame
      refine tk (oi := ⟨_, _, _, _, _, _⟩) (v := ?_) 10 rfl (by kernel_rfl) (fun _ _ _ h => h) (.inl ⟨by rfl, ?_⟩) (by assumption) ?_; rotate_left
      · (intro wS hSw; (try dsimp only at hSw); go_simp); all_goals with_reducible rfl
      try go_frame
      refine tk (oi := ⟨_, _, _, _, _, _⟩) (v := ?_) 11 rfl (by kernel_rfl) (fun _ _ _ h => h) (.inl ⟨by rfl, ?_⟩) (by assumption) ?_; rotate_left
      · (intro wS hSw; (try dsimp only at hSw); go_simp); all_goals with_reducible rfl
      try go_frame
      refine tk (oi := ⟨_, _, _, _, _, _⟩) (v := ?_) 12 rfl (by kernel_rfl) (fun _ _ _ h => h) (.inl ⟨by rfl, ?_⟩) (by assumption) ?_; rotate_left
      · (intro wS hSw; (try dsimp only at hSw); go_simp); all_goals with_reducible rfl
      try go_frame
      refine tk (oi := ⟨_, _, _, _, _, _⟩) (v := ?_) 13 rfl (by kernel_rfl) (fun _ _ _ h => h) (.inl ⟨by rfl, ?_⟩) (by assumption) ?_; rotate_left
      · (intro wS hSw; (try dsimp only at hSw); go_simp); all_goals with_reducible rfl
      try go_frame
      refine tk (oi := ⟨_, _, _, _, _, _⟩) (v := ?_) 14 rfl (by kernel_rfl) (fun _ _ _ h => h) (.inl ⟨by rfl, ?_⟩) (by assumption) ?_; rotate_left
      · (intro wS hSw; (try dsimp only at hSw); go_simp); all_goals with_reducible rfl
      try go_frame
      refine tk (oi := ⟨_, _, _, _, _, _⟩) (v := ?_) 15 rfl (by kernel_rfl) (fun _ _ _ h => h) (.inl ⟨by rfl, ?_⟩) (by assumption) ?_; rotate_left
      · (intro wS hSw; (try dsimp only at hSw); go_simp); all_goals with_reducible rfl
      try go_frame
      refine tk (oi := ⟨_, _, _, _, _, _⟩) (v := ?_) 16 rfl (by kernel_rfl) (fun _ _ _ h => h) (.inl ⟨by rfl, ?_⟩) (by assumption) ?_; rotate_left
      · (intro wS hSw; (try dsimp only at hSw); go_simp); all_goals with_reducible rfl
      try go_frame
      refine tk (oi := ⟨_, _, _, _, _, _⟩) (v := ?_) 17 rfl (by kernel_rfl) (fun _ _ _ h => h) (.inl ⟨by rfl, ?_⟩) (by assumption) ?_; rotate_left
      · (intro wS hSw; (try dsimp only at hSw); go_simp); all_goals with_reducible rfl
      try go_frame
      refine tk (oi := ⟨_, _, _, _, _, _⟩) (v := ?_) 18 rfl (by kernel_rfl) (fun _ _ _ h => h) (.inl ⟨by rfl, ?_⟩) (by assumption) ?_; rotate_left
      · (intro wS hSw; (try dsimp only at hSw); go_simp); all_goals with_reducible rfl
      try go_frame
      refine tk (oi := ⟨_, _, _, _, _, _⟩) (v := ?_) 19 rfl (by kernel_rfl) (fun _ _ _ h => h) (.inl ⟨by rfl, ?_⟩) (by assumption) ?_; rotate_left
      · (intro wS hSw; (try dsimp only at hSw); go_simp); all_goals with_reducible rfl
      try go_frame
      refine tk (oi := ⟨_, _, _, _, _, _⟩) (v := ?_) 20 rfl (by kernel_rfl) (fun _ _ _ h => h) (.inl ⟨by rfl, ?_⟩) (by assumption) ?_; rotate_left
      · (intro wS hSw; (try dsimp only at hSw); go_simp); all_goals with_reducible rfl
      try go_frame
      refine tk (oi := ⟨_, _, _, _, _, _⟩) (v := ?_) 21 rfl (by kernel_rfl) (fun _ _ _ h => h) (.inl ⟨by rfl, ?_⟩) (by assumption) ?_; rotate_left
      · (intro wS hSw; (try dsimp only at hSw); go_simp); all_goals with_reducible rfl
      try go_frame
      refine tk (oi := ⟨_, _, _, _, _, _⟩) (v := ?_) 22 rfl (by kernel_rfl) (fun _ _ _ h => h) (.inl ⟨by rfl, ?_⟩) (by assumption) ?_; rotate_left
      · (intro wS hSw; (try dsimp only at hSw); go_simp); all_goals with_reducible rfl
      try go_frame
      refine tk (oi := ⟨_, _, _, _, _, _⟩) (v := ?_) 23 rfl (by kernel_rfl) (fun _ _ _ h => h) (.inl ⟨by rfl, ?_⟩) (by assumption) ?_; rotate_left
      · (intro wS hSw; (try dsimp only at hSw); go_simp); all_goals with_reducible rfl
      try go_frame
      refine tk (oi := ⟨_, _, _, _, _, _⟩) (v := ?_) 24 rfl (by kernel_rfl) (fun _ _ _ h => h) (.inl ⟨by rfl, ?_⟩) (by assumption) ?_; rotate_left
      · (intro wS hSw; (try dsimp only at hSw); go_simp); all_goals with_reducible rfl
      try go_frame
      refine tk (oi := ⟨_, _, _, _, _, _⟩) (v := ?_) 25 rfl (by kernel_rfl) (fun _ _ _ h => h) (.inl ⟨by rfl, ?_⟩) (by assumption) ?_; rotate_left
      · (intro wS hSw; (try dsimp only at hSw); go_simp); all_goals with_reducible rfl
      try go_frame
      refine tk (oi := ⟨_, _, _, _, _, _⟩) (v := ?_) 26 rfl (by kernel_rfl) (fun _ _ _ h => h) (.inl ⟨by rfl, ?_⟩) (by assumption) ?_; rotate_left
      · (intro wS hSw; (try dsimp only at hSw); go_simp); all_goals with_reducible rfl
      try go_frame
      refine tk (oi := ⟨_, _, _, _, _, _⟩) (v := ?_) 27 rfl (by kernel_rfl) (fun _ _ _ h => h) (.inl ⟨by rfl, ?_⟩) (by assumption) ?_; rotate_left
      · (intro wS hSw; (try dsimp only at hSw); go_simp); all_goals with_reducible rfl
      try go_frame
      refine tk (oi := ⟨_, _, _, _, _, _⟩) (v := ?_) 28 rfl (by kernel_rfl) (fun _ _ _ h => h) (.inl ⟨by rfl, ?_⟩) (by assumption) ?_; rotate_left
      · (intro wS hSw; (try dsimp only at hSw); go_simp); all_goals with_reducible rfl
      try go_frame
      refine tk (oi := ⟨_, _, _, _, _, _⟩) (v := ?_) 29 rfl (by kernel_rfl) (fun _ _ _ h => h) (.inl ⟨by rfl, ?_⟩) (by assumption) ?_; rotate_left
      · (intro wS hSw; (try dsimp only at hSw); go_simp); all_goals with_reducible rfl
      try go_frame
      refine tk (oi := ⟨_, _, _, _, _, _⟩) (v := ?_) 30 rfl (by kernel_rfl) (fun _ _ _ h => h) (.inl ⟨by rfl, ?_⟩) (by assumption) ?_; rotate_left
      · (intro wS hSw; (try dsimp only at hSw); go_simp); all_goals with_reducible rfl
      try go_frame
      refine tk (oi := ⟨_, _, _, _, _, _⟩) (v := ?_) 31 rfl (by kernel_rfl) (fun _ _ _ h => h) (.inl ⟨by rfl, ?_⟩) (by assumption) ?_; rotate_left
      · (intro wS hSw; (try dsimp only at hSw); go_simp); all_goals with_reducible rfl
      try go_frame
      refine tk (oi := ⟨_, _, _, _, _, _⟩) (v := ?_) 32 rfl (by kernel_rfl) (fun _ _ _ h => h) (.inl ⟨by rfl, ?_⟩) (by assumption) ?_; rotate_left
      · (intro wS hSw; (try dsimp only at hSw); go_simp); all_goals with_reducible rfl
      try go_frame
      refine tk (oi := ⟨_, _, _, _, _, _⟩) (v := ?_) 33 rfl (by kernel_rfl) (fun _ _ _ h => h) (.inl ⟨by rfl, ?_⟩) (by assumption) ?_; rotate_left
      · (intro wS hSw; (try dsimp only at hSw); go_simp); all_goals with_reducible rfl
      try go_frame
      refine tk (oi := ⟨_, _, _, _, _, _⟩) (v := ?_) 34 rfl (by kernel_rfl) (fun _ _ _ h => h) (.inl ⟨by rfl, ?_⟩) (by assumption) ?_; rotate_left
      · (intro wS hSw; (try dsimp only at hSw); go_simp); all_goals with_reducible rfl
      try go_frame
      refine tk (oi := ⟨_, _, _, _, _, _⟩) (v := ?_) 35 rfl (by kernel_rfl) (fun _ _ _ h => h) (.inl ⟨by rfl, ?_⟩) (by assumption) ?_; rotate_left
      · (intro wS hSw; (try dsimp only at hSw); go_simp); all_goals with_reducible rfl
      try go_frame
      refine tk (oi := ⟨_, _, _, _, _, _⟩) (v := ?_) 36 rfl (by kernel_rfl) (fun _ _ _ h => h) (.inl ⟨by rfl, ?_⟩) (by assumption) ?_; rotate_left
      · (intro wS hSw; (try dsimp only at hSw); go_simp); all_goals with_reducible rfl
      try go_frame
      refine tk (oi := ⟨_, _, _, _, _, _⟩) (v := ?_) 37 rfl (by kernel_rfl) (fun _ _ _ h => h) (.inl ⟨by rfl, ?_⟩) (by assumption) ?_; rotate_left
      · (intro wS hSw; (try dsimp only at hSw); go_simp); all_goals with_reducible rfl
      try go_frame
      refine tk (oi := ⟨_, _, _, _, _, _⟩) (v := ?_) 38 rfl (by kernel_rfl) (fun _ _ _ h => h) (.inl ⟨by rfl, ?_⟩) (by assumption) ?_; rotate_left
      · (intro wS hSw; (try dsimp only at hSw); go_simp); all_goals with_reducible rfl
      try go_frame
      refine tk (oi := ⟨_, _, _, _, _, _⟩) (v := ?_) 39 rfl (by kernel_rfl) (fun _ _ _ h => h) (.inl ⟨by rfl, ?_⟩) (by assumption) ?_; rotate_left
      · (intro wS hSw; (try dsimp only at hSw); go_simp); all_goals with_reducible rfl
      try go_frame
      refine wpAnyH_done (by kernel_rfl) ?_ _
      clear hW1 wk kn w1 t0 t1 t2 d1 d2 d3
      have hbD : Below W1.heap.size W1 W1.drew := (Below.refl _ W1).drew
      obtain ⟨e0, e1, e2, e3, e4⟩ := hcs.out _ hbD
      have hbD' := hbW.trans (hbD.mono (Nat.le_of_lt hzW))
      by_cases l40 : 40 ≤ x.level
      · have hv : Hid (42 = V) := by show _ = _; rw [← hv'.out, if_pos l40]
        clear hv'
        go_wp2_with fail
        go_ret
        exact ⟨by rw [← hv.out]; rfl, hbD'⟩
      by_cases k1000 : 1000 ≤ k
      · have hv : Hid (43 = V) := by show _ = _; rw [← hv'.out, if_neg l40, if_pos k1000]
        clear hv'
        have k1' : (1000 : Int) ≤ k := by omega
        go_wp2_with fail
        go_ret
        exact ⟨by rw [← hv.out]; rfl, hbD'⟩
      have hv : Hid (0 = V) := by show _ = _; rw [← hv'.out, if_neg l40, if_neg k1000]
      clear hv'
      have k1' : (k : Int) < 1000 := by omega
      have l40' : x.level < 40 := by omega
      go_wp2_with fail
      go_ret
      exact ⟨by rw [← hv.out]; rfl, hbD'⟩
  · skip
    have hpl : placeE (some p) k x = (if 40 ≤ x.level then (42 : Int) else if 1000 ≤ k then 43 else 0) := by unfold placeE; exact if_neg (by omega)
    have hv' : Hid ((if 40 ≤ x.level then (42 : Int) else if 1000 ≤ k then 43 else 0) = V) := by show _ = _; rw [← hV', hpl]
    clear hpl
    have d1 : decide (x.level < 1) = false := by simp; omega
    have w1 : IntKind.i64.wrap (p.level + 1) = p.level + 1 := IntWalk.i64_in _ (by omega)
    have d2 : decide (p.level + 1 < x.level) = false := by simp; omega
    have d3 : decide (p.level < x.level) = false := by simp; omega
    have wk : IntKind.i64.wrap ((k : Int) - 1) = (k : Int) - 1 := IntWalk.i64_in _ (by omega)
    have kn : ((k : Int) - 1).toNat = k - 1 := by omega
    clear hV'
    go_enter Try.func50, Try.ntmps50
    go_wp2_with fail
    rw [← hW1.out]
    refine wp_region_held_drew (S := fun w' => w'.cell? ⟨w.heap.size, 0, none⟩ = some (.int .i64 x.level) ∧ w'.cell? (ad.add ((k - 1) * 5)) = some (.int .i64 p.level) ∧ w'.cell? ⟨(ad.add ((k - 1) * 5)).block, (ad.add ((k - 1) * 5)).off + 1, none⟩ = some (.int .i64 p.kind)) (by kernel_rfl) hS.out (fun hHeld => ?_)
    refine tk (oi := ⟨_, _, _, _, _, _⟩) (v := ?_) 0 rfl (by kernel_rfl) (fun _ _ _ h => h) (.inl ⟨by rfl, ?_⟩) (by assumption) ?_; rotate_left
    · (intro wS hSw; (try dsimp only at hSw); go_simp); all_goals with_reducible rfl
    try go_frame
    refine tk (oi := ⟨_, _, _, _, _, _⟩) (v := ?_) 1 rfl (by kernel_rfl) (fun _ _ _ h => h) (.inl ⟨by rfl, ?_⟩) (by assumption) ?_; rotate_left
    · (intro wS hSw; (try dsimp only at hSw); go_simp); all_goals with_reducible rfl
    try go_frame
    refine tk (oi := ⟨_, _, _, _, _, _⟩) (v := ?_) 2 rfl (by kernel_rfl) (fun _ _ _ h => h) (.inl ⟨by rfl, ?_⟩) (by assumption) ?_; rotate_left
    · (intro wS hSw; (try dsimp only at hSw); go_simp); all_goals with_reducible rfl
    try go_frame
    refine tk (oi := ⟨_, _, _, _, _, _⟩) (v := ?_) 3 rfl (by kernel_rfl) (fun _ _ _ h => h) (.inl ⟨by rfl, ?_⟩) (by assumption) ?_; rotate_left
    · (intro wS hSw; (try dsimp only at hSw); go_simp); all_goals with_reducible rfl
    try go_frame
    refine tk (oi := ⟨_, _, _, _, _, _⟩) (v := ?_) 4 rfl (by kernel_rfl) (fun _ _ _ h => h) (.inl ⟨by rfl, ?_⟩) (by assumption) ?_; rotate_left
    · (intro wS hSw; (try dsimp only at hSw); go_simp); all_goals with_reducible rfl
    try go_frame
    refine tk (oi := ⟨_, _, _, _, _, _⟩) (v := ?_) 5 rfl (by kernel_rfl) (fun _ _ _ h => h) (.inl ⟨by rfl, ?_⟩) (by assumption) ?_; rotate_left
    · (intro wS hSw; (try dsimp only at hSw); go_simp); all_goals with_reducible rfl
    try go_frame
    refine tk (oi := ⟨_, _, _, _, _, _⟩) (v := ?_) 6 rfl (by kernel_rfl) (fun _ _ _ h => h) (.inl ⟨by rfl, ?_⟩) (by assumption) ?_; rotate_left
    · (intro wS hSw; (try dsimp only at hSw); go_simp); all_goals with_reducible rfl
    try go_frame
    refine tk (oi := ⟨_, _, _, _, _, _⟩) (v := ?_) 7 rfl (by kernel_rfl) (fun _ _ _ h => h) (.inl ⟨by rfl, ?_⟩) (by assumption) ?_; rotate_left
    · (intro wS hSw; (try dsimp only at hSw); go_simp); all_goals with_reducible rfl
    try go_frame
    refine tk (oi := ⟨_, _, _, _, _, _⟩) (v := ?_) 8 rfl (by kernel_rfl) (fun _ _ _ h => h) (.inl ⟨by rfl, ?_⟩) (by assumption) ?_; rotate_left
    · (intro wS hSw; (try dsimp only at hSw); go_simp); all_goals with_reducible rfl
    try go_frame
    refine tk (oi := ⟨_, _, _, _, _, _⟩) (v := ?_) 9 rfl (by kernel_rfl) (fun _ _ _ h => h) (.inl ⟨by rfl, ?_⟩) (by assumption) ?_; rotate_left
    · (intro wS hSw; (try dsimp only at hSw); go_simp); all_goals with_reducible rfl
    try go_frame
    refine tk (oi := ⟨_, _, _, _, _, _⟩) (v := ?_) 10 rfl (by kernel_rfl) (fun _ _ _ h => h) (.inl ⟨by rfl, ?_⟩) (by assumption) ?_; rotate_left
    · (intro wS hSw; (try dsimp only at hSw); go_simp); all_goals with_reducible rfl
    try go_frame
    refine tk (oi := ⟨_, _, _, _, _, _⟩) (v := ?_) 11 rfl (by kernel_rfl) (fun _ _ _ h => h) (.inl ⟨by rfl, ?_⟩) (by assumption) ?_; rotate_left
    · (intro wS hSw; (try dsimp only at hSw); go_simp); all_goals with_reducible rfl
    try go_frame
    refine tk (oi := ⟨_, _, _, _, _, _⟩) (v := ?_) 12 rfl (by kernel_rfl) (fun _ _ _ h => h) (.inl ⟨by rfl, ?_⟩) (by assumption) ?_; rotate_left
    · (intro wS hSw; (try dsimp only at hSw); go_simp); all_goals with_reducible rfl
    try go_frame
    refine tk (oi := ⟨_, _, _, _, _, _⟩) (v := ?_) 13 rfl (by kernel_rfl) (fun _ _ _ h => h) (.inl ⟨by rfl, ?_⟩) (by assumption) ?_; rotate_left
    · (intro wS hSw; (try dsimp only at hSw); go_simp); all_goals with_reducible rfl
    try go_frame
    refine tk (oi := ⟨_, _, _, _, _, _⟩) (v := ?_) 14 rfl (by kernel_rfl) (fun _ _ _ h => h) (.inl ⟨by rfl, ?_⟩) (by assumption) ?_; rotate_left
    · (intro wS hSw; (try dsimp only at hSw); go_simp); all_goals with_reducible rfl
    try go_frame
    refine tk (oi := ⟨_, _, _, _, _, _⟩) (v := ?_) 15 rfl (by kernel_rfl) (fun _ _ _ h => h) (.inl ⟨by rfl, ?_⟩) (by assumption) ?_; rotate_left
    · (intro wS hSw; (try dsimp only at hSw); go_simp); all_goals with_reducible rfl
    try go_frame
    refine tk (oi := ⟨_, _, _, _, _, _⟩) (v := ?_) 16 rfl (by kernel_rfl) (fun _ _ _ h => h) (.inl ⟨by rfl, ?_⟩) (by assumption) ?_; rotate_left
    · (intro wS hSw; (try dsimp only at hSw); go_simp); all_goals with_reducible rfl
    try go_frame
    refine tk (oi := ⟨_, _, _, _, _, _⟩) (v := ?_) 17 rfl (by kernel_rfl) (fun _ _ _ h => h) (.inl ⟨by rfl, ?_⟩) (by assumption) ?_; rotate_left
    · (intro wS hSw; (try dsimp only at hSw); go_simp); all_goals with_reducible rfl
    try go_frame
    refine tk (oi := ⟨_, _, _, _, _, _⟩) (v := ?_) 18 rfl (by kernel_rfl) (fun _ _ _ h => h) (.inl ⟨by rfl, ?_⟩) (by assumption) ?_; rotate_left
    · (intro wS hSw; (try dsimp only at hSw); go_simp); all_goals with_reducible rfl
    try go_frame
    refine tk (oi := ⟨_, _, _, _, _, _⟩) (v := ?_) 19 rfl (by kernel_rfl) (fun _ _ _ h => h) (.inl ⟨by rfl, ?_⟩) (by assumption) ?_; rotate_left
    · (intro wS hSw; (try dsimp only at hSw); go_simp); all_goals with_reducible rfl
    try go_frame
    refine tk (oi := ⟨_, _, _, _, _, _⟩) (v := ?_) 20 rfl (by kernel_rfl) (fun _ _ _ h => h) (.inl ⟨by rfl, ?_⟩) (by assumption) ?_; rotate_left
    · (intro wS hSw; (try dsimp only at hSw); go_simp); all_goals with_reducible rfl
    try go_frame
    refine tk (oi := ⟨_, _, _, _, _, _⟩) (v := ?_) 21 rfl (by kernel_rfl) (fun _ _ _ h => h) (.inl ⟨by rfl, ?_⟩) (by assumption) ?_; rotate_left
    · (intro wS hSw; (try dsimp only at hSw); go_simp); all_goals with_reducible rfl
    try go_frame
    refine tk (oi := ⟨_, _, _, _, _, _⟩) (v := ?_) 22 rfl (by kernel_rfl) (fun _ _ _ h => h) (.inl ⟨by rfl, ?_⟩) (by assumption) ?_; rotate_left
    · (intro wS hSw; (try dsimp only at hSw); go_simp); all_goals with_reducible rfl
    try go_frame
    refine tk (oi := ⟨_, _, _, _, _, _⟩) (v := ?_) 23 rfl (by kernel_rfl) (fun _ _ _ h => h) (.inl ⟨by rfl, ?_⟩) (by assumption) ?_; rotate_left
    · (intro wS hSw; (try dsimp only at hSw); go_simp); all_goals with_reducible rfl
    try go_frame
    refine tk (oi := ⟨_, _, _, _, _, _⟩) (v := ?_) 24 rfl (by kernel_rfl) (fun _ _ _ h => h) (.inl ⟨by rfl, ?_⟩) (by assumption) ?_; rotate_left
    · (intro wS hSw; (try dsimp only at hSw); go_simp); all_goals with_reducible rfl
    try go_frame
    refine tk (oi := ⟨_, _, _, _, _, _⟩) (v := ?_) 25 rfl (by kernel_rfl) (fun _ _ _ h => h) (.inl ⟨by rfl, ?_⟩) (by assumption) ?_; rotate_left
    · (intro wS hSw; (try dsimp only at hSw); go_simp); all_goals with_reducible rfl
    try go_frame
    refine tk (oi := ⟨_, _, _, _, _, _⟩) (v := ?_) 26 rfl (by kernel_rfl) (fun _ _ _ h => h) (.inl ⟨by rfl, ?_⟩) (by assumption) ?_; rotate_left
    · (intro wS hSw; (try dsimp only at hSw); go_simp); all_goals with_reducible rfl
    try go_frame
    refine tk (oi := ⟨_, _, _, _, _, _⟩) (v := ?_) 27 rfl (by kernel_rfl) (fun _ _ _ h => h) (.inl ⟨by rfl, ?_⟩) (by assumption) ?_; rotate_left
    · (intro wS hSw; (try dsimp only at hSw); go_simp); all_goals with_reducible rfl
    try go_frame
    refine tk (oi := ⟨_, _, _, _, _, _⟩) (v := ?_) 28 rfl (by kernel_rfl) (fun _ _ _ h => h) (.inl ⟨by rfl, ?_⟩) (by assumption) ?_; rotate_left
    · (intro wS hSw; (try dsimp only at hSw); go_simp); all_goals with_reducible rfl
    try go_frame
    refine tk (oi := ⟨_, _, _, _, _, _⟩) (v := undef) 29 rfl (by kernel_rfl) (fun _ _ _ h => h) (.inr ⟨by rfl, rfl⟩) (by assumption) ?_
    try go_frame
    refine tk (oi := ⟨_, _, _, _, _, _⟩) (v := undef) 30 rfl (by kernel_rfl) (fun _ _ _ h => h) (.inr ⟨by rfl, rfl⟩) (by assumption) ?_
    try go_frame
    refine tk (oi := ⟨_, _, _, _, _, _⟩) (v := undef) 31 rfl (by kernel_rfl) (fun _ _ _ h => h) (.inr ⟨by rfl, rfl⟩) (by assumption) ?_
    try go_frame
    refine tk (oi := ⟨_, _, _, _, _, _⟩) (v := undef) 32 rfl (by kernel_rfl) (fun _ _ _ h => h) (.inr ⟨by rfl, rfl⟩) (by assumption) ?_
    try go_frame
    refine tk (oi := ⟨_, _, _, _, _, _⟩) (v := undef) 33 rfl (by kernel_rfl) (fun _ _ _ h => h) (.inr ⟨by rfl, rfl⟩) (by assumption) ?_
    try go_frame
    refine tk (oi := ⟨_, _, _, _, _, _⟩) (v := undef) 34 rfl (by kernel_rfl) (fun _ _ _ h => h) (.inr ⟨by rfl, rfl⟩) (by assumption) ?_
    try go_frame
    refine tk (oi := ⟨_, _, _, _, _, _⟩) (v := undef) 35 rfl (by kernel_rfl) (fun _ _ _ h => h) (.inr ⟨by rfl, rfl⟩) (by assumption) ?_
    try go_frame
    refine tk (oi := ⟨_, _, _, _, _, _⟩) (v := ?_) 36 rfl (by kernel_rfl) (fun _ _ _ h => h) (.inl ⟨by rfl, ?_⟩) (by assumption) ?_; rotate_left
    · (intro wS hSw; (try dsimp only at hSw); go_simp); all_goals with_reducible rfl
    try go_frame
    refine tk (oi := ⟨_, _, _, _, _, _⟩) (v := ?_) 37 rfl (by kernel_rfl) (fun _ _ _ h => h) (.inl ⟨by rfl, ?_⟩) (by assumption) ?_; rotate_left
    · (intro wS hSw; (try dsimp only at hSw); go_simp); all_goals with_reducible rfl
    try go_frame
    refine tk (oi := ⟨_, _, _, _, _, _⟩) (v := ?_) 38 rfl (by kernel_rfl) (fun _ _ _ h => h) (.inl ⟨by rfl, ?_⟩) (by assumption) ?_; rotate_left
    · (intro wS hSw; (try dsimp only at hSw); go_simp); all_goals with_reducible rfl
    try go_frame
    refine tk (oi := ⟨_, _, _, _, _, _⟩) (v := ?_) 39 rfl (by kernel_rfl) (fun _ _ _ h => h) (.inl ⟨by rfl, ?_⟩) (by assumption) ?_; rotate_left
    · (intro wS hSw; (try dsimp only at hSw); go_simp); all_goals with_reducible rfl
    try go_frame
    refine wpAnyH_done (by kernel_rfl) ?_ _
    clear hW1 wk kn w1 t0 t1 t2 d1 d2 d3
    have hbD : Below W1.heap.size W1 W1.drew := (Below.refl _ W1).drew
    obtain ⟨e0, e1, e2, e3, e4⟩ := hcs.out _ hbD
    have hbD' := hbW.trans (hbD.mono (Nat.le_of_lt hzW))
    by_cases l40 : 40 ≤ x.level
    · have hv : Hid (42 = V) := by show _ = _; rw [← hv'.out, if_pos l40]
      clear hv'
      go_wp2_with fail
      go_ret
      exact ⟨by rw [← hv.out]; rfl, hbD'⟩
    by_cases k1000 : 1000 ≤ k
    · have hv : Hid (43 = V) := by show _ = _; rw [← hv'.out, if_neg l40, if_pos k1000]
      clear hv'
      have k1' : (1000 : Int) ≤ k := by omega
      go_wp2_with fail
      go_ret
      exact ⟨by rw [← hv.out]; rfl, hbD'⟩
    have hv : Hid (0 = V) := by show _ = _; rw [← hv'.out, if_neg l40, if_neg k1000]
    clear hv'
    have k1' : (k : Int) < 1000 := by omega
    have l40' : x.level < 40 := by omega
    go_wp2_with fail
    go_ret
    exact ⟨by rw [← hv.out]; rfl, hbD'⟩
end Go.Proofs.Ythifddkmbjnncaa

/-
  The walk of parse.End.
-/
namespace Go.Proofs.Ythifddkmbjnncaa
open Go.RowKit

/-- the numbers behind an item, one by one -/
theorem kids_step (c : Int) (l : List ItemD) (n : Nat) (y : ItemD) (hy : l[n]? = some y) : (kidsOf c (l.drop n)).length = if c < y.level then 1 + (kidsOf c (l.drop (n + 1))).length else 0 := by
  rw [drop_cons hy]
  show (List.takeWhile _ (y :: _)).length = _
  rw [List.takeWhile_cons]
  by_cases h : c < y.level
  · rw [if_pos h, if_pos (by simpa using h), List.length_cons]; unfold kidsOf; omega
  · rw [if_neg h, if_neg (by simpa using h)]; rfl

def endL (l : List ItemD) (k : Int) : Int := if k < 0 ∨ l.length ≤ k then 0 else (endN l k.toNat : Nat)

set_option maxRecDepth 100000 in
set_option maxHeartbeats 2000000 in
theorem End_in (l : List ItemD) (ad : Addr) (c k : Nat) (x : ItemD) (w : World) (hA : ItemsAt w w.heap.size (some ad) l) (hx : l[k]? = some x) (hl : l.length ≤ 1000000000) (E : Nat) (hE : Hid (endN l k = E)) :
    Calls Try.prog 27 #[.slice (some ad) l.length c, .int .i64 k] w (Ret w (.int .i64 E)) := by
  have hk : k < l.length := (List.getElem?_eq_some_iff.1 hx).1
  have HA := Lib.hid hA
  obtain ⟨hb, _, _, _, _, hx0, _⟩ := hA.item hx
  have hE0 : Hid (k + 1 + (kidsOf x.level (l.drop (k + 1))).length = E) := by
    show _ = _
    rw [← hE.out]
    unfold endN
    rw [drop_cons hx]
  clear hA hx hE
  have i0 : (0 : Int) ≤ (k : Int) := by omega
  have i1 : (k : Int) < l.length := by omega
  have t0 : decide ((k : Int) < 0) = false := by simp
  have t1 : decide ((l.length : Int) ≤ k) = false := by simp; omega
  have t2 : decide (l.length ≤ k) = false := by simp; omega
  have HX0 := Lib.hid hx0
  clear hx0
  go_enter Try.func27, Try.ntmps27
  go_wp2_with fail
  clear t0 t1 t2
  go_loopw [5] (fun i wr => ∃ (n : Nat), k + 1 ≤ n ∧ n ≤ l.length ∧ i = .int .i64 n ∧ Hid (n + (kidsOf x.level (l.drop n)).length = E) ∧ Below w.heap.size w wr) (fun i _ => l.length - (intOf i).toNat)
  case atStart => exact ⟨k + 1, Nat.le_refl _, hk, by go_num, hE0, Below.refl _ _⟩
  case round =>
    obtain ⟨n, hkn, hnl, rfl, hin, hbel⟩ := hrel
    have hx0 : wr.drew.cell? (ad.add (k * 5)) = some (.int .i64 x.level) := (hbel.drew.cell (by rw [block_of_add]; exact hb)).trans HX0.out
    have j0 : (0 : Int) ≤ (n : Int) := by omega
    by_cases hlt : n < l.length
    · obtain ⟨y, hy⟩ : ∃ y, Hid (l[n]? = some y) := ⟨l[n], List.getElem?_eq_getElem _⟩
      obtain ⟨_, _, _, _, _, hy0, _⟩ := HA.out.item hy.out
      have hy0' : wr.drew.cell? (ad.add (n * 5)) = some (.int .i64 y.level) := (hbel.drew.cell (by rw [block_of_add]; exact hb)).trans hy0
      have hstep := kids_step x.level l n y hy.out
      have hin' := hin.out
      rw [hstep] at hin'
      have j1 : (n : Int) < l.length := by omega
      have HS : Hid (wr.drew.cell? (ad.add (k * 5)) = some (.int .i64 x.level) ∧ wr.drew.cell? (ad.add (n * 5)) = some (.int .i64 y.level)) := ⟨hx0, hy0'⟩
      clear hx0 hy0 hy0' hstep hin
      have t3 : decide ((n : Int) < l.length) = true := by simp; omega
      have t4 : decide (n < l.length) = true := by simp; omega
      by_cases hc : x.level < y.level
      · rw [if_pos hc] at hin'
        have HIN : Hid (n + 1 + (kidsOf x.level (l.drop (n + 1))).length = E) := by show _ = _; rw [← hin']; omega
        have d1 : decide (x.level < y.level) = true := by simpa using hc
        clear hin' hc
        go_wp2_with fail
        refine wp_region_held_drew (S := fun w' => w'.cell? (ad.add (k * 5)) = some (.int .i64 x.level) ∧ w'.cell? (ad.add (n * 5)) = some (.int .i64 y.level)) (by kernel_rfl) HS.out (fun hHeld => ?_)
        refine tk (oi := ⟨_, _, _, _, _, _⟩) (v := ?_) 0 rfl (by kernel_rfl) (fun _ _ _ h => h) (.inl ⟨by rfl, ?_⟩) (by assumption) ?_; rotate_left
        · (intro wS hSw; (try dsimp only at hSw); go_simp); all_goals with_reducible rfl
        try go_frame
        refine tk (oi := ⟨_, _, _, _, _, _⟩) (v := ?_) 1 rfl (by kernel_rfl) (fun _ _ _ h => h) (.inl ⟨by rfl, ?_⟩) (by assumption) ?_; rotate_left
        · (intro wS hSw; (try dsimp only at hSw); go_simp); all_goals with_reducible rfl
        try go_frame
        refine tk (oi := ⟨_, _, _, _, _, _⟩) (v := ?_) 2 rfl (by kernel_rfl) (fun _ _ _ h => h) (.inl ⟨by rfl, ?_⟩) (by assumption) ?_; rotate_left
        · (intro wS hSw; (try dsimp only at hSw); go_simp); all_goals with_reducible rfl
        try go_frame
        refine tk (oi := ⟨_, _, _, _, _, _⟩) (v := ?_) 3 rfl (by kernel_rfl) (fun _ _ _ h => h) (.inl ⟨by rfl, ?_⟩) (by assumption) ?_; rotate_left
        · (intro wS hSw; (try dsimp only at hSw); go_simp); all_goals with_reducible rfl
        try go_frame
        refine tk (oi := ⟨_, _, _, _, _, _⟩) (v := ?_) 4 rfl (by kernel_rfl) (fun _ _ _ h => h) (.inl ⟨by rfl, ?_⟩) (by assumption) ?_; rotate_left
        · (intro wS hSw; (try dsimp only at hSw); go_simp); all_goals with_reducible rfl
        try go_frame
        refine tk (oi := ⟨_, _, _, _, _, _⟩) (v := ?_) 5 rfl (by kernel_rfl) (fun _ _ _ h => h) (.inl ⟨by rfl, ?_⟩) (by assumption) ?_; rotate_left
        · (intro wS hSw; (try dsimp only at hSw); go_simp); all_goals with_reducible rfl
        try go_frame
        refine tk (oi := ⟨_, _, _, _, _, _⟩) (v := ?_) 6 rfl (by kernel_rfl) (fun _ _ _ h => h) (.inl ⟨by rfl, ?_⟩) (by assumption) ?_; rotate_left
        · (intro wS hSw; (try dsimp only at hSw); go_simp); all_goals with_reducible rfl
        try go_frame
        refine tk (oi := ⟨_, _, _, _, _, _⟩) (v := ?_) 7 rfl (by kernel_rfl) (fun _ _ _ h => h) (.inl ⟨by rfl, ?_⟩) (by assumption) ?_; rotate_left
        · (intro wS hSw; (try dsimp only at hSw); go_simp); all_goals with_reducible rfl
        try go_frame
        refine tk (oi := ⟨_, _, _, _, _, _⟩) (v := ?_) 8 rfl (by kernel_rfl) (fun _ _ _ h => h) (.inl ⟨by rfl, ?_⟩) (by assumption) ?_; rotate_left
        · (intro wS hSw; (try dsimp only at hSw); go_simp); all_goals with_reducible rfl
        try go_frame
        refine tk (oi := ⟨_, _, _, _, _, _⟩) (v := ?_) 9 rfl (by kernel_rfl) (fun _ _ _ h => h) (.inl ⟨by rfl, ?_⟩) (by assumption) ?_; rotate_left
        · (intro wS hSw; (try dsimp only at hSw); go_simp); all_goals with_reducible rfl
        try go_frame
        refine tk (oi := ⟨_, _, _, _, _, _⟩) (v := ?_) 10 rfl (by kernel_rfl) (fun _ _ _ h => h) (.inl ⟨by rfl, ?_⟩) (by assumption) ?_; rotate_left
        · (intro wS hSw; (try dsimp only at hSw); go_simp); all_goals with_reducible rfl
        try go_frame
        refine tk (oi := ⟨_, _, _, _, _, _⟩) (v := ?_) 11 rfl (by kernel_rfl) (fun _ _ _ h => h) (.inl ⟨by rfl, ?_⟩) (by assumption) ?_; rotate_left
        · (intro wS hSw; (try dsimp only at hSw); go_simp); all_goals with_reducible rfl
        try go_frame
        refine tk (oi := ⟨_, _, _, _, _, _⟩) (v := ?_) 12 rfl (by kernel_rfl) (fun _ _ _ h => h) (.inl ⟨by rfl, ?_⟩) (by assumption) ?_; rotate_left
        · (intro wS hSw; (try dsimp only at hSw); go_simp); all_goals with_reducible rfl
        try go_frame
        refine tk (oi := ⟨_, _, _, _, _, _⟩) (v := ?_) 13 rfl (by kernel_rfl) (fun _ _ _ h => h) (.inl ⟨by rfl, ?_⟩) (by assumption) ?_; rotate_left
        · (intro wS hSw; (try dsimp only at hSw); go_simp); all_goals with_reducible rfl
        try go_frame
        refine tk (oi := ⟨_, _, _, _, _, _⟩) (v := ?_) 14 rfl (by kernel_rfl) (fun _ _ _ h => h) (.inl ⟨by rfl, ?_⟩) (by assumption) ?_; rotate_left
        · (intro wS hSw; (try dsimp only at hSw); go_simp); all_goals with_reducible rfl
        try go_frame
        refine tk (oi := ⟨_, _, _, _, _, _⟩) (v := ?_) 15 rfl (by kernel_rfl) (fun _ _ _ h => h) (.inl ⟨by rfl, ?_⟩) (by assumption) ?_; rotate_left
        · (intro wS hSw; (try dsimp only at hSw); go_simp); all_goals with_reducible rfl
        try go_frame
        refine tk (oi := ⟨_, _, _, _, _, _⟩) (v := ?_) 16 rfl (by kernel_rfl) (fun _ _ _ h => h) (.inl ⟨by rfl, ?_⟩) (by assumption) ?_; rotate_left
        · (intro wS hSw; (try dsimp only at hSw); go_simp); all_goals with_reducible rfl
        try go_frame
        refine wpAnyH_done (by kernel_rfl) ?_ _
        clear hHeld t3 t4 d1
        go_wp2_with fail
        go_roundw
        case rel => exact ⟨n + 1, by omega, by omega, by go_num, HIN, hbel.drew⟩
        case measure => simp [intOf]; omega
      · rw [if_neg hc] at hin'
        have HIN : Hid (n = E) := by show _ = _; rw [← hin']; rfl
        have d1 : decide (x.level < y.level) = false := by simpa using hc
        clear hin' hc
        go_wp2_with fail
        refine wp_region_held_drew (S := fun w' => w'.cell? (ad.add (k * 5)) = some (.int .i64 x.level) ∧ w'.cell? (ad.add (n * 5)) = some (.int .i64 y.level)) (by kernel_rfl) HS.out (fun hHeld => ?_)
        refine tk (oi := ⟨_, _, _, _, _, _⟩) (v := ?_) 0 rfl (by kernel_rfl) (fun _ _ _ h => h) (.inl ⟨by rfl, ?_⟩) (by assumption) ?_; rotate_left
        · (intro wS hSw; (try dsimp only at hSw); go_simp); all_goals with_reducible rfl
        try go_frame
        refine tk (oi := ⟨_, _, _, _, _, _⟩) (v := ?_) 1 rfl (by kernel_rfl) (fun _ _ _ h => h) (.inl ⟨by rfl, ?_⟩) (by assumption) ?_; rotate_left
        · (intro wS hSw; (try dsimp only at hSw); go_simp); all_goals with_reducible rfl
        try go_frame
        refine tk (oi := ⟨_, _, _, _, _, _⟩) (v := ?_) 2 rfl (by kernel_rfl) (fun _ _ _ h => h) (.inl ⟨by rfl, ?_⟩) (by assumption) ?_; rotate_left
        · (intro wS hSw; (try dsimp only at hSw); go_simp); all_goals with_reducible rfl
        try go_frame
        refine tk (oi := ⟨_, _, _, _, _, _⟩) (v := ?_) 3 rfl (by kernel_rfl) (fun _ _ _ h => h) (.inl ⟨by rfl, ?_⟩) (by assumption) ?_; rotate_left
        · (intro wS hSw; (try dsimp only at hSw); go_simp); all_goals with_reducible rfl
        try go_frame
        refine tk (oi := ⟨_, _, _, _, _, _⟩) (v := ?_) 4 rfl (by kernel_rfl) (fun _ _ _ h => h) (.inl ⟨by rfl, ?_⟩) (by assumption) ?_; rotate_left
        · (intro wS hSw; (try dsimp only at hSw); go_simp); all_goals with_reducible rfl
        try go_frame
        refine tk (oi := ⟨_, _, _, _, _, _⟩) (v := ?_) 5 rfl (by kernel_rfl) (fun _ _ _ h => h) (.inl ⟨by rfl, ?_⟩) (by assumption) ?_; rotate_left
        · (intro wS hSw; (try dsimp only at hSw); go_simp); all_goals with_reducible rfl
        try go_frame
        refine tk (oi := ⟨_, _, _, _, _, _⟩) (v := ?_) 6 rfl (by kernel_rfl) (fun _ _ _ h => h) (.inl ⟨by rfl, ?_⟩) (by assumption) ?_; rotate_left
        · (intro wS hSw; (try dsimp only at hSw); go_simp); all_goals with_reducible rfl
        try go_frame
        refine tk (oi := ⟨_, _, _, _, _, _⟩) (v := ?_) 7 rfl (by kernel_rfl) (fun _ _ _ h => h) (.inl ⟨by rfl, ?_⟩) (by assumption) ?_; rotate_left
        · (intro wS hSw; (try dsimp only at hSw); go_simp); all_goals with_reducible rfl
        try go_frame
        refine tk (oi := ⟨_, _, _, _, _, _⟩) (v := ?_) 8 rfl (by kernel_rfl) (fun _ _ _ h => h) (.inl ⟨by rfl, ?_⟩) (by assumption) ?_; rotate_left
        · (intro wS hSw; (try dsimp only at hSw); go_simp); all_goals with_reducible rfl
        try go_frame
        refine tk (oi := ⟨_, _, _, _, _, _⟩) (v := ?_) 9 rfl (by kernel_rfl) (fun _ _ _ h => h) (.inl ⟨by rfl, ?_⟩) (by assumption) ?_; rotate_left
        · (intro wS hSw; (try dsimp only at hSw); go_simp); all_goals with_reducible rfl
        try go_frame
        refine tk (oi := ⟨_, _, _, _, _, _⟩) (v := ?_) 10 rfl (by kernel_rfl) (fun _ _ _ h => h) (.inl ⟨by rfl, ?_⟩) (by assumption) ?_; rotate_left
        · (intro wS hSw; (try dsimp only at hSw); go_simp); all_goals with_reducible rfl
        try go_frame
        refine tk (oi := ⟨_, _, _, _, _, _⟩) (v := ?_) 11 rfl (by kernel_rfl) (fun _ _ _ h => h) (.inl ⟨by rfl, ?_⟩) (by assumption) ?_; rotate_left
        · (intro wS hSw; (try dsimp only at hSw); go_simp); all_goals with_reducible rfl
        try go_frame
        refine tk (oi := ⟨_, _, _, _, _, _⟩) (v := ?_) 12 rfl (by kernel_rfl) (fun _ _ _ h => h) (.inl ⟨by rfl, ?_⟩) (by assumption) ?_; rotate_left
        · (intro wS hSw; (try dsimp only at hSw); go_simp); all_goals with_reducible rfl
        try go_frame
        refine tk (oi := ⟨_, _, _, _, _, _⟩) (v := ?_) 13 rfl (by kernel_rfl) (fun _ _ _ h => h) (.inl ⟨by rfl, ?_⟩) (by assumption) ?_; rotate_left
        · (intro wS hSw; (try dsimp only at hSw); go_simp); all_goals with_reducible rfl
        try go_frame
        refine tk (oi := ⟨_, _, _, _, _, _⟩) (v := ?_) 14 rfl (by kernel_rfl) (fun _ _ _ h => h) (.inl ⟨by rfl, ?_⟩) (by assumption) ?_; rotate_left
        · (intro wS hSw; (try dsimp only at hSw); go_simp); all_goals with_reducible rfl
        try go_frame
        refine tk (oi := ⟨_, _, _, _, _, _⟩) (v := ?_) 15 rfl (by kernel_rfl) (fun _ _ _ h => h) (.inl ⟨by rfl, ?_⟩) (by assumption) ?_; rotate_left
        · (intro wS hSw; (try dsimp only at hSw); go_simp); all_goals with_reducible rfl
        try go_frame
        refine tk (oi := ⟨_, _, _, _, _, _⟩) (v := ?_) 16 rfl (by kernel_rfl) (fun _ _ _ h => h) (.inl ⟨by rfl, ?_⟩) (by assumption) ?_; rotate_left
        · (intro wS hSw; (try dsimp only at hSw); go_simp); all_goals with_reducible rfl
        try go_frame
        refine wpAnyH_done (by kernel_rfl) ?_ _
        clear hHeld t3 t4 d1
        go_wp2_with fail
        go_ret
        exact ⟨by rw [← HIN.out]; rfl, hbel.drew⟩
    · have HIN : Hid (n = E) := by
        show _ = _
        rw [← hin.out, List.drop_eq_nil_of_le (by omega)]; rfl
      have t3 : decide ((n : Int) < l.length) = false := by simp; omega
      have t4 : decide (n < l.length) = false := by simp; omega
      clear hin hx0
      go_wp2_with fail
      refine wp_region_held_drew (S := fun _ => True) (by kernel_rfl) trivial (fun hHeld => ?_)
      refine tk (oi := ⟨_, _, _, _, _, _⟩) (v := ?_) 0 rfl (by kernel_rfl) (fun _ _ _ h => h) (.inl ⟨by rfl, ?_⟩) (by assumption) ?_; rotate_left
      · (intro wS hSw; (try dsimp only at hSw); go_simp); all_goals with_reducible rfl
      try go_frame
      refine tk (oi := ⟨_, _, _, _, _, _⟩) (v := ?_) 1 rfl (by kernel_rfl) (fun _ _ _ h => h) (.inl ⟨by rfl, ?_⟩) (by assumption) ?_; rotate_left
      · (intro wS hSw; (try dsimp only at hSw); go_simp); all_goals with_reducible rfl
      try go_frame
      refine tk (oi := ⟨_, _, _, _, _, _⟩) (v := ?_) 2 rfl (by kernel_rfl) (fun _ _ _ h => h) (.inl ⟨by rfl, ?_⟩) (by assumption) ?_; rotate_left
      · (intro wS hSw; (try dsimp only at hSw); go_simp); all_goals with_reducible rfl
      try go_frame
      refine tk (oi := ⟨_, _, _, _, _, _⟩) (v := ?_) 3 rfl (by kernel_rfl) (fun _ _ _ h => h) (.inl ⟨by rfl, ?_⟩) (by assumption) ?_; rotate_left
      · (intro wS hSw; (try dsimp only at hSw); go_simp); all_goals with_reducible rfl
      try go_frame
      refine tk (oi := ⟨_, _, _, _, _, _⟩) (v := ?_) 4 rfl (by kernel_rfl) (fun _ _ _ h => h) (.inl ⟨by rfl, ?_⟩) (by assumption) ?_; rotate_left
      · (intro wS hSw; (try dsimp only at hSw); go_simp); all_goals with_reducible rfl
      try go_frame
      refine tk (oi := ⟨_, _, _, _, _, _⟩) (v := undef) 5 rfl (by kernel_rfl) (fun _ _ _ h => h) (.inr ⟨by rfl, rfl⟩) (by assumption) ?_
      try go_frame
      refine tk (oi := ⟨_, _, _, _, _, _⟩) (v := undef) 6 rfl (by kernel_rfl) (fun _ _ _ h => h) (.inr ⟨by rfl, rfl⟩) (by assumption) ?_
      try go_frame
      refine tk (oi := ⟨_, _, _, _, _, _⟩) (v := undef) 7 rfl (by kernel_rfl) (fun _ _ _ h => h) (.inr ⟨by rfl, rfl⟩) (by assumption) ?_
      try go_frame
      refine tk (oi := ⟨_, _, _, _, _, _⟩) (v := undef) 8 rfl (by kernel_rfl) (fun _ _ _ h => h) (.inr ⟨by rfl, rfl⟩) (by assumption) ?_
      try go_frame
      refine tk (oi := ⟨_, _, _, _, _, _⟩) (v := undef) 9 rfl (by kernel_rfl) (fun _ _ _ h => h) (.inr ⟨by rfl, rfl⟩) (by assumption) ?_
      try go_frame
      refine tk (oi := ⟨_, _, _, _, _, _⟩) (v := undef) 10 rfl (by kernel_rfl) (fun _ _ _ h => h) (.inr ⟨by rfl, rfl⟩) (by assumption) ?_
      try go_frame
      refine tk (oi := ⟨_, _, _, _, _, _⟩) (v := undef) 11 rfl (by kernel_rfl) (fun _ _ _ h => h) (.inr ⟨by rfl, rfl⟩) (by assumption) ?_
      try go_frame
      refine tk (oi := ⟨_, _, _, _, _, _⟩) (v := undef) 12 rfl (by kernel_rfl) (fun _ _ _ h => h) (.inr ⟨by rfl, rfl⟩) (by assumption) ?_
      try go_frame
      refine tk (oi := ⟨_, _, _, _, _, _⟩) (v := undef) 13 rfl (by kernel_rfl) (fun _ _ _ h => h) (.inr ⟨by rfl, rfl⟩) (by assumption) ?_
      try go_frame
      refine tk (oi := ⟨_, _, _, _, _, _⟩) (v := undef) 14 rfl (by kernel_rfl) (fun _ _ _ h => h) (.inr ⟨by rfl, rfl⟩) (by assumption) ?_
      try go_frame
      refine tk (oi := ⟨_, _, _, _, _, _⟩) (v := undef) 15 rfl (by kernel_rfl) (fun _ _ _ h => h) (.inr ⟨by rfl, rfl⟩) (by assumption) ?_
      try go_frame
      refine tk (oi := ⟨_, _, _, _, _, _⟩) (v := ?_) 16 rfl (by kernel_rfl) (fun _ _ _ h => h) (.inl ⟨by rfl, ?_⟩) (by assumption) ?_; rotate_left
      · (intro wS hSw; (try dsimp only at hSw); go_simp); all_goals with_reducible rfl
      try go_frame
      refine wpAnyH_done (by kernel_rfl) ?_ _
      clear hHeld t3 t4
      go_wp2_with fail
      go_ret
      exact ⟨by rw [← HIN.out]; rfl, hbel.drew⟩
end Go.Proofs.Ythifddkmbjnncaa

/-
  The plain law of documents: what a row that was checked is; the two ways to print it come to the same. No program in sight.
-/
namespace Go.Proofs.Ythifddkmbjnncaa

/-! What was checked. -/
theorem checkF_ok : ∀ (l : List ItemD) (prev : Option ItemD) (k : Nat), (checkF prev k l).2 = 0 → ∀ (j : Nat) (x : ItemD), l[j]? = some x → oneE (if j = 0 then prev else l[j - 1]?) (k + j) x = 0
  | [], _, _, _, j, x, h => by simp at h
  | y :: r, prev, k, h, j, x, hx => by
    unfold checkF at h
    by_cases h0 : oneE prev k y = 0
    · rw [if_pos h0] at h
      cases j with
      | zero => simp at hx; subst hx; simpa using h0
      | succ j =>
        have := checkF_ok r (some y) (k + 1) h j x (by simpa using hx)
        rw [if_neg (by omega)]
        have e : (y :: r)[j + 1 - 1]? = if j = 0 then some y else r[j - 1]? := by
          cases j with
          | zero => rfl
          | succ j => simp
        rw [e, show k + (j + 1) = k + 1 + j by omega]
        exact this
    · rw [if_neg h0] at h; exact absurd h h0

structure Doc (l : List ItemD) : Prop where
  ne : l ≠ []
  one : ∀ (k : Nat) (x : ItemD), l[k]? = some x → oneE (prevOf l k) k x = 0
theorem checkL_ok {l : List ItemD} (h : (checkL l).2 = 0) : Doc l := by
  unfold checkL at h
  by_cases h0 : l = []
  · rw [if_pos h0] at h; cases h
  · rw [if_neg h0] at h
    refine ⟨h0, fun k x hx => ?_⟩
    have := checkF_ok l none 0 h k x hx
    rw [Nat.zero_add] at this
    exact this
theorem Doc.first {l : List ItemD} (h : Doc l) : ∃ x r, l = x :: r ∧ x.level = 0 ∧ x.kind = 1 := by
  cases l with
  | nil => exact absurd rfl h.ne
  | cons x r =>
    refine ⟨x, r, rfl, ?_⟩
    have h0 := (oneE_zero (h.one 0 x rfl)).1
    have : prevOf (x :: r) 0 = none := rfl
    rw [this] at h0
    unfold placeE at h0
    simp only at h0
    split at h0
    · omega
    · omega
theorem Doc.many {l : List ItemD} (h : Doc l) : l.length ≤ 1000 := by
  rcases Nat.lt_or_ge 1000 l.length with hl | hl
  · have hx : l[1000]? = some l[1000] := List.getElem?_eq_getElem hl
    have h0 := (oneE_zero (h.one 1000 _ hx)).1
    have hp : prevOf l 1000 = some (l[999]'(by omega)) := by unfold prevOf; rw [if_neg (by omega)]; exact List.getElem?_eq_getElem (by omega)
    rw [hp] at h0
    unfold placeE at h0
    simp only at h0
    split at h0
    · omega
    split at h0
    · omega
    · omega
  · exact hl

/-- how deep the next item may stand -/
def cap (x : ItemD) : Int := if x.kind = 2 then x.level else x.level + 1
def capC : Int → List ItemD → Prop
  | _, [] => True
  | c, x :: r => x.level ≤ c ∧ capC (cap x) r
theorem Doc.step {l : List ItemD} (h : Doc l) {k : Nat} {p x : ItemD} (hp : l[k]? = some p) (hx : l[k + 1]? = some x) : 1 ≤ x.level ∧ x.level ≤ cap p := by
  have h0 := (oneE_zero (h.one (k + 1) x hx)).1
  have e : prevOf l (k + 1) = some p := prevOf_succ hp
  rw [e] at h0
  unfold placeE at h0
  simp only at h0
  unfold cap
  split at h0
  · omega
  · split <;> omega
theorem capC_of {l : List ItemD} (hs : ∀ (k : Nat) (p x : ItemD), l[k]? = some p → l[k + 1]? = some x → x.level ≤ cap p) : ∀ (x : ItemD) (r : List ItemD), l = x :: r → capC x.level l := by
  have key : ∀ (r : List ItemD) (x : ItemD), (∀ (k : Nat) (p y : ItemD), (x :: r)[k]? = some p → (x :: r)[k + 1]? = some y → y.level ≤ cap p) → capC (cap x) r := by
    intro r
    induction r with
    | nil => intro x _; trivial
    | cons y r ih =>
      intro x h
      exact ⟨h 0 x y rfl rfl, ih y (fun k p z hp hz => h (k + 1) p z hp hz)⟩
  intro x r e
  subst e
  exact ⟨Int.le_refl _, key r x hs⟩
theorem Doc.cap {l : List ItemD} (h : Doc l) : capC 0 l ∧ ∀ y ∈ l, 0 ≤ y.level := by
  obtain ⟨x, r, rfl, hx0, _⟩ := h.first
  have := capC_of (fun k p y hp hy => (h.step hp hy).2) x r rfl
  rw [hx0] at this
  refine ⟨this, fun y hy => ?_⟩
  obtain ⟨k, hk⟩ := List.mem_iff_getElem?.1 hy
  exact (placeE_zero (oneE_zero (h.one k y hk)).1).1
theorem Doc.below {l : List ItemD} (h : Doc l) {x : ItemD} {r : List ItemD} (e : l = x :: r) : ∀ y ∈ r, 1 ≤ y.level := by
  subst e
  intro y hy
  obtain ⟨k, hk⟩ := List.mem_iff_getElem?.1 hy
  have h1 : (x :: r)[k + 1]? = some y := by simpa using hk
  have h2 : ∃ p, (x :: r)[k]? = some p := ⟨_, List.getElem?_eq_getElem (by have := (List.getElem?_eq_some_iff.1 h1).1; omega)⟩
  obtain ⟨p, hp⟩ := h2
  exact (h.step hp h1).1

/-! Made normal, item by item: the last one is held back. -/
def normP (p : ItemD) : List ItemD → List ItemD
  | [] => [p]
  | x :: r => if x.kind = 2 ∧ x.text = [] then normP p r
    else if x.kind = 2 ∧ p.kind = 2 ∧ p.level = x.level then normP { p with text := p.text ++ x.text } r
    else p :: normP x r
theorem fold_normP : ∀ (l out : List ItemD) (p : ItemD), l.foldl nstep (out ++ [p]) = out ++ normP p l
  | [], out, p => rfl
  | x :: l, out, p => by
    have hl : (out ++ [p])[(out ++ [p]).length - 1]? = some p := by simp
    rw [List.foldl_cons]
    by_cases h1 : x.kind = 2 ∧ x.text = []
    · rw [nstep_void h1.1 h1.2, fold_normP l out p, normP, if_pos h1]
    · by_cases h2 : x.kind = 2 ∧ p.kind = 2 ∧ p.level = x.level
      · have e : nstep (out ++ [p]) x = out ++ [{ p with text := p.text ++ x.text }] := by
          rw [nstep_join hl h2.1 (fun h => h1 ⟨h2.1, h⟩) h2.2.1 h2.2.2]
          simp
        rw [e, fold_normP l out _, normP, if_neg h1, if_pos h2]
      · rw [nstep_more hl h1 h2, fold_normP l (out ++ [p]) x, normP, if_neg h1, if_neg h2]
        simp
theorem normal_first {x : ItemD} {r : List ItemD} (h : x.kind = 1) : normalL (x :: r) = normP x r := by
  unfold normalL
  rw [List.foldl_cons, nstep_first (by rw [h]; simp)]
  exact fold_normP r [] x
theorem capC_more {c c' : Int} (h : c ≤ c') : ∀ {l : List ItemD}, capC c l → capC c' l
  | [], _ => trivial
  | _ :: _, hl => ⟨Int.le_trans hl.1 h, hl.2⟩
theorem normP_cap : ∀ (r : List ItemD) (p : ItemD) (c c' : Int), p.level ≤ c → c' ≤ cap p → capC c' r → capC c (normP p r)
  | [], p, c, c', h, _, _ => ⟨h, trivial⟩
  | x :: r, p, c, c', h, h', hr => by
    unfold normP
    split
    · rename_i h1
      refine normP_cap r p c (cap x) h ?_ hr.2
      have : cap x = x.level := by unfold cap; rw [if_pos h1.1]
      have := hr.1
      omega
    · split
      · rename_i h2
        refine normP_cap r _ c (cap x) h ?_ hr.2
        show cap x ≤ cap { p with text := _ }
        unfold cap
        rw [if_pos h2.1]
        show x.level ≤ (if p.kind = 2 then p.level else p.level + 1)
        rw [if_pos h2.2.1]; omega
      · exact ⟨h, normP_cap r x (cap p) (cap x) (by have := hr.1; omega) (Int.le_refl _) hr.2⟩
theorem normP_mem (P : Int → Prop) : ∀ (r : List ItemD) (p : ItemD), P p.level → (∀ y ∈ r, P y.level) → ∀ y ∈ normP p r, P y.level
  | [], p, hp, _, y, hy => by simp [normP] at hy; subst hy; exact hp
  | x :: r, p, hp, hr, y, hy => by
    unfold normP at hy
    split at hy
    · exact normP_mem P r p hp (fun z hz => hr z (by simp [hz])) y hy
    · split at hy
      · exact normP_mem P r { p with text := p.text ++ x.text } hp (fun z hz => hr z (by simp [hz])) y hy
      · rcases List.mem_cons.1 hy with rfl | hy
        · exact hp
        · exact normP_mem P r x (hr x (by simp)) (fun z hz => hr z (by simp [hz])) y hy
theorem normP_head : ∀ (r : List ItemD) (p : ItemD), p.kind = 1 → ∃ s, normP p r = p :: s ∧ ∀ (P : Int → Prop), (∀ y ∈ r, P y.level) → ∀ y ∈ s, P y.level
  | [], p, _ => ⟨[], rfl, fun _ _ _ h => by cases h⟩
  | x :: r, p, hp => by
    unfold normP
    split
    · obtain ⟨s, h1, h2⟩ := normP_head r p hp
      exact ⟨s, h1, fun P hP => h2 P (fun z hz => hP z (by simp [hz]))⟩
    · rw [if_neg (by rw [hp]; simp)]
      exact ⟨_, rfl, fun P hP => normP_mem P r x (hP x (by simp)) (fun z hz => hP z (by simp [hz]))⟩

/-- what a document is when it has been made normal -/
structure Shape (N : List ItemD) (x : ItemD) (s : List ItemD) : Prop where
  eq : N = x :: s
  level : x.level = 0
  kind : x.kind = 1
  cap : capC 0 N
  zero : ∀ y ∈ N, 0 ≤ y.level
  past : ∀ y ∈ s, 1 ≤ y.level
theorem Doc.normal {l : List ItemD} (h : Doc l) : ∃ x s, Shape (normalL l) x s := by
  obtain ⟨x, r, e, h0, h1⟩ := h.first
  have hc := h.cap
  have hb := h.below e
  subst e
  obtain ⟨s, e2, h2⟩ := normP_head r x h1
  refine ⟨x, s, by rw [normal_first h1]; exact e2, h0, h1, ?_, ?_, h2 (1 ≤ ·) hb⟩
  · rw [normal_first h1]
    exact normP_cap r x 0 (Go.Proofs.Ythifddkmbjnncaa.cap x) (by omega) (Int.le_refl _) hc.1.2
  · rw [normal_first h1, e2]
    intro y hy
    rcases List.mem_cons.1 hy with rfl | hy
    · omega
    · have := h2 (1 ≤ ·) hb y hy; omega

/-! The document's way to print: what is open is closed ahead of what is not in it. -/
def closeT (n : List UInt8) : List UInt8 := [60, 47] ++ n ++ [62]
def pops (L : Int) : List (List UInt8) → List UInt8 × List (List UInt8)
  | [] => ([], [])
  | n :: o => if L < (o.length + 1 : Nat) then (closeT n ++ (pops L o).1, (pops L o).2) else ([], n :: o)
def leafB (x : ItemD) : List ItemD → Bool
  | [] => true
  | y :: _ => decide (y.level ≤ x.level)
def mach : List (List UInt8) → List ItemD → List UInt8
  | o, [] => o.flatMap closeT
  | o, x :: r => (pops x.level o).1 ++ (if x.kind = 2 then escT x.text ++ mach (pops x.level o).2 r
      else if leafB x r then tagL x ++ [47, 62] ++ mach (pops x.level o).2 r else tagL x ++ [62] ++ mach (x.name :: (pops x.level o).2) r)
theorem pops_none {L : Int} {o : List (List UInt8)} (h : (o.length : Int) ≤ L) : pops L o = ([], o) := by
  cases o with
  | nil => rfl
  | cons n o => unfold pops; rw [if_neg (by simp at h ⊢; omega)]
theorem mach_pop {n : List UInt8} {o : List (List UInt8)} {s : List ItemD} (h : ∀ y t, s = y :: t → y.level ≤ o.length) : mach (n :: o) s = closeT n ++ mach o s := by
  cases s with
  | nil => rfl
  | cons y t =>
    have := h y t rfl
    unfold mach
    have e : pops y.level (n :: o) = (closeT n ++ (pops y.level o).1, (pops y.level o).2) := by
      rw [pops, if_pos (by simp; omega)]
    rw [e]
    simp
theorem mach_text {o : List (List UInt8)} {x : ItemD} {r : List ItemD} (hl : (o.length : Int) ≤ x.level) (hk : x.kind = 2) : mach o (x :: r) = escT x.text ++ mach o r := by
  rw [mach, pops_none hl, if_pos hk]; rfl
theorem mach_leaf {o : List (List UInt8)} {x : ItemD} {r : List ItemD} (hl : (o.length : Int) ≤ x.level) (hk : x.kind ≠ 2) (h : leafB x r = true) : mach o (x :: r) = tagL x ++ [47, 62] ++ mach o r := by
  rw [mach, pops_none hl, if_neg hk, if_pos h]; rfl
theorem mach_open {o : List (List UInt8)} {x : ItemD} {r : List ItemD} (hl : (o.length : Int) ≤ x.level) (hk : x.kind ≠ 2) (h : leafB x r = false) : mach o (x :: r) = tagL x ++ [62] ++ mach (x.name :: o) r := by
  rw [mach, pops_none hl, if_neg hk, if_neg (by simp [h])]; rfl

theorem capC_split : ∀ (a b : List ItemD) (c : Int), capC c (a ++ b) → capC c a ∧ ∃ c', capC c' b
  | [], b, c, h => ⟨trivial, c, h⟩
  | x :: a, b, c, h => by
    obtain ⟨h1, c', h2⟩ := capC_split a b (cap x) h.2
    exact ⟨⟨h.1, h1⟩, c', h2⟩
theorem capC_head {c c' : Int} : ∀ {l : List ItemD}, capC c l → (∀ y t, l = y :: t → y.level ≤ c') → capC c' l
  | [], _, _ => trivial
  | y :: t, h, h' => ⟨h' y t rfl, h.2⟩
theorem kids_nil {c : Int} {r : List ItemD} (h : capC c r) : kidsOf c r = [] ∧ pastOf c r = r := by
  cases r with
  | nil => exact ⟨rfl, rfl⟩
  | cons y r =>
    have := h.1
    have hd : decide (c < y.level) = false := by simp; omega
    constructor
    · show List.takeWhile _ (y :: r) = []
      rw [List.takeWhile_cons, hd]; rfl
    · show List.dropWhile _ (y :: r) = _
      rw [List.dropWhile_cons, hd]; rfl

theorem mach_seg : ∀ (n : Nat) (b : List ItemD) (o : List (List UInt8)) (rest : List ItemD), b.length ≤ n → (∀ y ∈ b, (o.length : Int) ≤ y.level) → capC o.length b → (∀ y t, rest = y :: t → y.level ≤ o.length) → mach o (b ++ rest) = pr b ++ mach o rest := by
  intro n
  induction n with
  | zero =>
    intro b o rest hb _ _ _
    have : b = [] := List.eq_nil_of_length_eq_zero (by omega)
    subst this
    rw [pr_nil]; rfl
  | succ n ih =>
    intro b o rest hb hlow hcap hrest
    cases b with
    | nil => rw [pr_nil]; rfl
    | cons x r =>
      have hx1 := hlow x (by simp)
      have hx2 := hcap.1
      have hxl : x.level = o.length := by omega
      have hr := hcap.2
      have hlr : ∀ y ∈ r, (o.length : Int) ≤ y.level := fun y hy => hlow y (by simp [hy])
      have hbl : r.length ≤ n := by simp at hb; omega
      rw [pr_cons, List.cons_append]
      by_cases hk : x.kind = 2
      · have hcx : cap x = x.level := by unfold cap; rw [if_pos hk]
        rw [hcx] at hr
        obtain ⟨k1, k2⟩ := kids_nil hr
        have hr' : capC o.length r := by rw [← hxl]; exact hr
        rw [mach_text hx1 hk, ih r o rest hbl hlr hr' hrest, k1, k2]
        have : nodeL x [] (pr []) = escT x.text := by unfold nodeL; rw [if_pos hk]
        rw [this, List.append_assoc]
      · have hcx : cap x = x.level + 1 := by unfold cap; rw [if_neg hk]
        rw [hcx] at hr
        have hsplit := kids_past x.level r
        have hpast : ∀ y t, pastOf x.level r = y :: t → y.level ≤ x.level := fun y t h => past_head x.level r y t h
        have hpr : ∀ y t, pastOf x.level r ++ rest = y :: t → y.level ≤ (o.length : Int) := by
          intro y t h
          cases hp : pastOf x.level r with
          | nil => rw [hp] at h; exact hrest y t h
          | cons z s =>
            rw [hp] at h
            injection h with h1 _
            subst h1
            have := hpast z s hp
            omega
        rw [← hsplit] at hr
        obtain ⟨hc1, c', hc2⟩ := capC_split _ _ _ hr
        have hc2' : capC o.length (pastOf x.level r) := capC_head hc2 (fun y t h => by have := hpast y t h; omega)
        have hkl := kidsOf_le x.level r
        have hpl := pastOf_le x.level r
        have hlp : ∀ y ∈ pastOf x.level r, (o.length : Int) ≤ y.level := fun y hy => hlr y (by rw [← hsplit]; simp [hy])
        by_cases hkn : kidsOf x.level r = []
        · have hleaf : leafB x (r ++ rest) = true := by
            have e : r ++ rest = pastOf x.level r ++ rest := by
              conv => lhs; rw [← hsplit]
              rw [hkn]; rfl
            rw [e]
            cases hp : pastOf x.level r ++ rest with
            | nil => rfl
            | cons y t => have := hpr y t hp; show decide _ = true; simp; omega
          have e : r = pastOf x.level r := by
            conv => lhs; rw [← hsplit]
            rw [hkn]; rfl
          rw [mach_leaf hx1 hk hleaf, hkn]
          have : nodeL x [] (pr []) = tagL x ++ [47, 62] := by unfold nodeL; rw [if_neg hk, if_pos rfl]
          rw [this]
          conv => lhs; rw [e]
          rw [ih _ o rest (by omega) hlp hc2' hrest]
          simp
        · obtain ⟨y, t, hyt⟩ := List.exists_cons_of_ne_nil hkn
          have hyl : x.level < y.level := kids_mem x.level r y (by rw [hyt]; simp)
          have hleaf : leafB x (r ++ rest) = false := by
            have e : r ++ rest = y :: (t ++ (pastOf x.level r ++ rest)) := by
              conv => lhs; rw [← hsplit]
              rw [hyt]; simp
            rw [e]
            show decide _ = false
            simp; omega
          rw [mach_open hx1 hk hleaf]
          have e : r ++ rest = kidsOf x.level r ++ (pastOf x.level r ++ rest) := by
            conv => lhs; rw [← hsplit]
            rw [List.append_assoc]
          have hcl : ((x.name :: o).length : Int) = x.level + 1 := by simp; omega
          rw [e, ih (kidsOf x.level r) (x.name :: o) (pastOf x.level r ++ rest) (by omega)
            (fun z hz => by have := kids_mem x.level r z hz; omega) (by rw [hcl]; exact hc1)
            (fun z u h => by have := hpr z u h; omega)]
          rw [mach_pop hpr, ih (pastOf x.level r) o rest (by omega) hlp hc2' hrest]
          have : nodeL x (kidsOf x.level r) (pr (kidsOf x.level r)) = tagL x ++ [62] ++ pr (kidsOf x.level r) ++ closeT x.name := by
            unfold nodeL; rw [if_neg hk, if_neg hkn]; rfl
          rw [this]
          simp

theorem all_kids (c : Int) : ∀ (s : List ItemD), (∀ y ∈ s, c < y.level) → kidsOf c s = s ∧ pastOf c s = []
  | [], _ => ⟨rfl, rfl⟩
  | y :: s, h => by
    obtain ⟨h1, h2⟩ := all_kids c s (fun z hz => h z (by simp [hz]))
    have hd : decide (c < y.level) = true := by have := h y (by simp); simpa using this
    constructor
    · show List.takeWhile _ (y :: s) = _
      rw [List.takeWhile_cons, hd]
      show y :: kidsOf c s = _
      rw [h1]
    · show List.dropWhile _ (y :: s) = _
      rw [List.dropWhile_cons, hd]
      exact h2
theorem Shape.pr {N : List ItemD} {x : ItemD} {s : List ItemD} (h : Shape N x s) : pr N = nodeAt N 0 := by
  rw [h.eq, pr_cons]
  have hk : kidsOf x.level s = s ∧ pastOf x.level s = [] := all_kids x.level s (fun y hy => by have := h.past y hy; have := h.level; omega)
  rw [hk.2, pr_nil, List.append_nil]
  rfl
theorem Shape.mach {N : List ItemD} {x : ItemD} {s : List ItemD} (h : Shape N x s) : mach [] N = nodeAt N 0 := by
  have := mach_seg N.length N [] [] (Nat.le_refl _) (fun y hy => by have := h.zero y hy; simpa using this) (by simpa using h.cap) (fun y t h => by cases h)
  rw [List.append_nil] at this
  rw [this, ← h.pr]
  show Go.Proofs.Ythifddkmbjnncaa.pr N ++ [] = _
  rw [List.append_nil]
end Go.Proofs.Ythifddkmbjnncaa

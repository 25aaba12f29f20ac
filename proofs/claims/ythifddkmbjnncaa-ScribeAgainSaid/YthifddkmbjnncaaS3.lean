/-
  Texts of this claim, joined (by a program of the claim's author): Place, End, OwnS, OwnA, Clone.
-/
import Derived.Test.YthifddkmbjnncaaS1
import Derived.Test.YthifddkmbjnncaaS2
import Derived.Deep.RegionHeld3
import Derived.Laws.OwnMore
import Derived.Laws.StructEq
/-
  The walk of parse.place: whether an item may stand where it does.
-/
namespace Go.Proofs.Ythifddkmbjnncaa
open Go.RowKit

theorem ItemsAt.item {w : World} {B : Nat} {ad : Addr} {l : List ItemD} (h : ItemsAt w B (some ad) l) {k : Nat} {x : ItemD} (hx : l[k]? = some x) : ad.block < B ∧ ∃ A' c, AttrsAt w B A' x.attrs ∧ x.attrs.length ≤ c ∧
    w.cell? (ad.add (k * 5)) = some (.int .i64 x.level) ∧ w.cell? ⟨(ad.add (k * 5)).block, (ad.add (k * 5)).off + 1, none⟩ = some (.int .i64 x.kind) ∧ w.cell? ⟨(ad.add (k * 5)).block, (ad.add (k * 5)).off + 2, none⟩ = some (strV x.name) ∧
    w.cell? ⟨(ad.add (k * 5)).block, (ad.add (k * 5)).off + 3, none⟩ = some (strV x.text) ∧ w.cell? ⟨(ad.add (k * 5)).block, (ad.add (k * 5)).off + 4, none⟩ = some (.slice A' x.attrs.length c) := by
  obtain ⟨ad', e, hb, hc⟩ := h (by have := (List.getElem?_eq_some_iff.1 hx).1; omega)
  injection e with e; subst e
  exact ⟨hb, hc k x hx⟩

set_option maxRecDepth 100000 in
set_option maxHeartbeats 2000000 in
theorem place_first (l : List ItemD) (ad : Addr) (c : Nat) (x : ItemD) (w : World) (hA : ItemsAt w w.heap.size (some ad) l) (hx : l[0]? = some x) (_hlen : l.length ≤ 1000000000) (V : Int) (hV : Hid (placeE none 0 x = V)) :
    Calls Try.prog 50 #[.slice (some ad) l.length c, .int .i64 0] w (Ret w (.int .i64 V)) := by
  have hl : 0 < l.length := (List.getElem?_eq_some_iff.1 hx).1
  obtain ⟨hbl, A', c', hat, _, h0, h1, h2, h3, h4⟩ := hA.item hx
  unfold strV at h2 h3
  have ez : ad.add (0 * 5) = ad := by unfold Addr.add; simp
  rw [ez] at h0 h1 h2 h3 h4
  have HAT := Lib.hid hat
  have hV' := hV.out
  clear hA hx ez hat hV
  by_cases c1 : x.level ≠ 0 ∨ x.kind ≠ 1
  · have hv : Hid (69 = V) := by
      show _ = _
      rw [← hV']
      unfold placeE
      exact (if_pos c1).symm
    clear hV'
    by_cases c2 : x.level = 0
    · have d1 : (x.level != 0) = false := by simp [c2]
      have d2 : (x.kind != 1) = true := by simp; omega
      clear c1 c2
      go_enter Try.func50, Try.ntmps50
      go_wp2_with fail
      go_ret
      exact ⟨by rw [← hv.out]; rfl, (Below.refl _ w).alloc (Nat.le_refl _) _⟩
    · have d1 : (x.level != 0) = true := by simp [c2]
      clear c1 c2
      go_enter Try.func50, Try.ntmps50
      go_wp2_with fail
      go_ret
      exact ⟨by rw [← hv.out]; rfl, (Below.refl _ w).alloc (Nat.le_refl _) _⟩
  · have hl0 : x.level = 0 := by omega
    have hk1 : x.kind = 1 := by omega
    have hv : Hid (0 = V) := by
      show _ = _
      rw [← hV']
      unfold placeE
      exact (if_neg c1).symm
    have d1 : (x.level != 0) = false := by simp [hl0]
    have d2 : (x.kind != 1) = false := by simp [hk1]
    have l0 : x.level ≤ 0 := by omega
    clear hV' c1 hk1 hl0
    go_enter Try.func50, Try.ntmps50
    go_wp2_with fail
    refine wp_region_held_drew (S := fun _ => True) (by kernel_rfl) trivial (fun hHeld => ?_)
    refine tks (oi := ⟨_, _, _, _, _, _⟩) (v := ?_) 0 rfl (.inl ⟨by rfl, ?_⟩) ?_; rotate_left
    · (intro wS hSw; (try dsimp only at hSw); go_simp); all_goals with_reducible rfl
    try go_frame
    refine tks (oi := ⟨_, _, _, _, _, _⟩) (v := ?_) 1 rfl (.inl ⟨by rfl, ?_⟩) ?_; rotate_left
    · (intro wS hSw; (try dsimp only at hSw); go_simp); all_goals with_reducible rfl
    try go_frame
    refine tks (oi := ⟨_, _, _, _, _, _⟩) (v := ?_) 2 rfl (.inl ⟨by rfl, ?_⟩) ?_; rotate_left
    · (intro wS hSw; (try dsimp only at hSw); go_simp); all_goals with_reducible rfl
    try go_frame
    refine tks (oi := ⟨_, _, _, _, _, _⟩) (v := undef) 3 rfl (.inr ⟨by rfl, rfl⟩) ?_
    try go_frame
    refine tks (oi := ⟨_, _, _, _, _, _⟩) (v := undef) 4 rfl (.inr ⟨by rfl, rfl⟩) ?_
    try go_frame
    refine tks (oi := ⟨_, _, _, _, _, _⟩) (v := undef) 5 rfl (.inr ⟨by rfl, rfl⟩) ?_
    try go_frame
    refine tks (oi := ⟨_, _, _, _, _, _⟩) (v := undef) 6 rfl (.inr ⟨by rfl, rfl⟩) ?_
    try go_frame
    refine tks (oi := ⟨_, _, _, _, _, _⟩) (v := undef) 7 rfl (.inr ⟨by rfl, rfl⟩) ?_
    try go_frame
    refine tks (oi := ⟨_, _, _, _, _, _⟩) (v := undef) 8 rfl (.inr ⟨by rfl, rfl⟩) ?_
    try go_frame
    refine tks (oi := ⟨_, _, _, _, _, _⟩) (v := undef) 9 rfl (.inr ⟨by rfl, rfl⟩) ?_
    try go_frame
    refine tks (oi := ⟨_, _, _, _, _, _⟩) (v := undef) 10 rfl (.inr ⟨by rfl, rfl⟩) ?_
    try go_frame
    refine tks (oi := ⟨_, _, _, _, _, _⟩) (v := undef) 11 rfl (.inr ⟨by rfl, rfl⟩) ?_
    try go_frame
    refine tks (oi := ⟨_, _, _, _, _, _⟩) (v := undef) 12 rfl (.inr ⟨by rfl, rfl⟩) ?_
    try go_frame
    refine tks (oi := ⟨_, _, _, _, _, _⟩) (v := undef) 13 rfl (.inr ⟨by rfl, rfl⟩) ?_
    try go_frame
    refine tks (oi := ⟨_, _, _, _, _, _⟩) (v := undef) 14 rfl (.inr ⟨by rfl, rfl⟩) ?_
    try go_frame
    refine tks (oi := ⟨_, _, _, _, _, _⟩) (v := undef) 15 rfl (.inr ⟨by rfl, rfl⟩) ?_
    try go_frame
    refine tks (oi := ⟨_, _, _, _, _, _⟩) (v := undef) 16 rfl (.inr ⟨by rfl, rfl⟩) ?_
    try go_frame
    refine tks (oi := ⟨_, _, _, _, _, _⟩) (v := undef) 17 rfl (.inr ⟨by rfl, rfl⟩) ?_
    try go_frame
    refine tks (oi := ⟨_, _, _, _, _, _⟩) (v := undef) 18 rfl (.inr ⟨by rfl, rfl⟩) ?_
    try go_frame
    refine tks (oi := ⟨_, _, _, _, _, _⟩) (v := undef) 19 rfl (.inr ⟨by rfl, rfl⟩) ?_
    try go_frame
    refine tks (oi := ⟨_, _, _, _, _, _⟩) (v := undef) 20 rfl (.inr ⟨by rfl, rfl⟩) ?_
    try go_frame
    refine tks (oi := ⟨_, _, _, _, _, _⟩) (v := undef) 21 rfl (.inr ⟨by rfl, rfl⟩) ?_
    try go_frame
    refine tks (oi := ⟨_, _, _, _, _, _⟩) (v := undef) 22 rfl (.inr ⟨by rfl, rfl⟩) ?_
    try go_frame
    refine tks (oi := ⟨_, _, _, _, _, _⟩) (v := undef) 23 rfl (.inr ⟨by rfl, rfl⟩) ?_
    try go_frame
    refine tks (oi := ⟨_, _, _, _, _, _⟩) (v := undef) 24 rfl (.inr ⟨by rfl, rfl⟩) ?_
    try go_frame
    refine tks (oi := ⟨_, _, _, _, _, _⟩) (v := undef) 25 rfl (.inr ⟨by rfl, rfl⟩) ?_
    try go_frame
    refine tks (oi := ⟨_, _, _, _, _, _⟩) (v := undef) 26 rfl (.inr ⟨by rfl, rfl⟩) ?_
    try go_frame
    refine tks (oi := ⟨_, _, _, _, _, _⟩) (v := undef) 27 rfl (.inr ⟨by rfl, rfl⟩) ?_
    try go_frame
    refine tks (oi := ⟨_, _, _, _, _, _⟩) (v := undef) 28 rfl (.inr ⟨by rfl, rfl⟩) ?_
    try go_frame
    refine tks (oi := ⟨_, _, _, _, _, _⟩) (v := undef) 29 rfl (.inr ⟨by rfl, rfl⟩) ?_
    try go_frame
    refine tks (oi := ⟨_, _, _, _, _, _⟩) (v := undef) 30 rfl (.inr ⟨by rfl, rfl⟩) ?_
    try go_frame
    refine tks (oi := ⟨_, _, _, _, _, _⟩) (v := undef) 31 rfl (.inr ⟨by rfl, rfl⟩) ?_
    try go_frame
    refine tks (oi := ⟨_, _, _, _, _, _⟩) (v := undef) 32 rfl (.inr ⟨by rfl, rfl⟩) ?_
    try go_frame
    refine tks (oi := ⟨_, _, _, _, _, _⟩) (v := undef) 33 rfl (.inr ⟨by rfl, rfl⟩) ?_
    try go_frame
    refine tks (oi := ⟨_, _, _, _, _, _⟩) (v := undef) 34 rfl (.inr ⟨by rfl, rfl⟩) ?_
    try go_frame
    refine tks (oi := ⟨_, _, _, _, _, _⟩) (v := undef) 35 rfl (.inr ⟨by rfl, rfl⟩) ?_
    try go_frame
    refine tks (oi := ⟨_, _, _, _, _, _⟩) (v := undef) 36 rfl (.inr ⟨by rfl, rfl⟩) ?_
    try go_frame
    refine tks (oi := ⟨_, _, _, _, _, _⟩) (v := undef) 37 rfl (.inr ⟨by rfl, rfl⟩) ?_
    try go_frame
    refine tks (oi := ⟨_, _, _, _, _, _⟩) (v := ?_) 38 rfl (.inl ⟨by rfl, ?_⟩) ?_; rotate_left
    · (intro wS hSw; (try dsimp only at hSw); go_simp); all_goals with_reducible rfl
    try go_frame
    refine tks (oi := ⟨_, _, _, _, _, _⟩) (v := ?_) 39 rfl (.inl ⟨by rfl, ?_⟩) ?_; rotate_left
    · (intro wS hSw; (try dsimp only at hSw); go_simp); all_goals with_reducible rfl
    try go_frame
    refine wpAnyH_done (by kernel_rfl) ?_ _
    go_wp2_with fail
    go_ret
    exact ⟨by rw [← hv.out]; rfl, ((Below.refl _ w).alloc (Nat.le_refl _) _).drew⟩

set_option maxRecDepth 100000 in
set_option maxHeartbeats 4000000 in
theorem place_later (l : List ItemD) (ad : Addr) (c k : Nat) (x p : ItemD) (w : World) (hA : ItemsAt w w.heap.size (some ad) l) (hk0 : 0 < k) (hx : l[k]? = some x) (hp : l[k - 1]? = some p) (hlen : l.length ≤ 1000000000) (hpl : -9000000000000000000 ≤ p.level ∧ p.level ≤ 9000000000000000000) (V : Int) (hV : Hid (placeE (some p) k x = V)) :
    Calls Try.prog 50 #[.slice (some ad) l.length c, .int .i64 k] w (Ret w (.int .i64 V)) := by
  have hl : k < l.length := (List.getElem?_eq_some_iff.1 hx).1
  obtain ⟨hbl, A', c', hat, _, h0, h1, h2, h3, h4⟩ := hA.item hx
  obtain ⟨_, A2, c2, _, _, g0, g1, _, _, _⟩ := hA.item hp
  unfold strV at h2 h3
  have HAT := Lib.hid hat
  have hV' := hV.out
  clear hA hx hp hV hat
  have i1 : (0 : Int) ≤ (k : Int) := by omega
  have i2 : (1 : Int) ≤ (k : Int) := by omega
  have i3 : (k : Int) < l.length := by omega
  have i4 : (0 : Int) ≤ (k : Int) - 1 := by omega
  have i5 : (k : Int) - 1 < l.length := by omega
  have t0 : ((k : Int) == 0) = false := by simp; omega
  have t1 : decide ((0 : Int) < (k : Int)) = true := by simp; omega
  have t2 : decide (0 < k) = true := by simp; omega
  obtain ⟨lo, hi⟩ := hpl
  obtain ⟨W1, hW1⟩ : ∃ W1, Hid (W1 = w.alloc (.cells #[.int .i64 x.level, .int .i64 x.kind, .string ⟨x.name.toArray⟩, .string ⟨x.text.toArray⟩, .slice A' x.attrs.length c'] 50)) := ⟨_, rfl⟩
  have hS : Hid (W1.drew.cell? ⟨w.heap.size, 0, none⟩ = some (.int .i64 x.level) ∧ W1.drew.cell? (ad.add ((k - 1) * 5)) = some (.int .i64 p.level) ∧ W1.drew.cell? ⟨(ad.add ((k - 1) * 5)).block, (ad.add ((k - 1) * 5)).off + 1, none⟩ = some (.int .i64 p.kind)) := by
    refine ⟨?_, ?_, ?_⟩
    · rw [hW1.out]; show (w.alloc _).cell? _ = _; rw [World.cell?_alloc_at _ _ _ _ (by simp)]; rfl
    · rw [hW1.out]; show (w.alloc _).cell? _ = _; rw [World.cell?_alloc_lt _ _ _ (by rw [block_of_add]; exact hbl)]; exact g0
    · rw [hW1.out]; show (w.alloc _).cell? _ = _; rw [World.cell?_alloc_lt _ _ _ (by show (ad.add _).block < _; rw [block_of_add]; exact hbl)]; exact g1
  have hbW : Below w.heap.size w W1 := by rw [hW1.out]; exact (Below.refl _ w).alloc (Nat.le_refl _) _
  have hzW : w.heap.size < W1.heap.size := by rw [hW1.out]; simp
  have hcs : Hid (∀ w', Below W1.heap.size W1 w' → w'.cell? ⟨w.heap.size, 0, none⟩ = some (.int .i64 x.level) ∧ w'.cell? ⟨w.heap.size, 1, none⟩ = some (.int .i64 x.kind) ∧ w'.cell? ⟨w.heap.size, 2, none⟩ = some (.string ⟨x.name.toArray⟩) ∧ w'.cell? ⟨w.heap.size, 3, none⟩ = some (.string ⟨x.text.toArray⟩) ∧ w'.cell? ⟨w.heap.size, 4, none⟩ = some (.slice A' x.attrs.length c')) := fun w' hb => by
    refine ⟨?_, ?_, ?_, ?_, ?_⟩
    all_goals
      rw [hb.cell (by exact hzW), hW1.out, World.cell?_alloc_at _ _ _ _ (by simp)]; rfl
  by_cases c1 : x.level < 1
  · skip
    have hv : Hid (69 = V) := by
      show _ = _
      rw [← hV']
      unfold placeE
      exact (if_pos (.inl c1)).symm
    have d1 : decide (x.level < 1) = true := by simp; omega
    clear hV'
    go_enter Try.func50, Try.ntmps50
    go_wp2_with fail
    rw [← hW1.out]
    refine wp_region_held_drew (S := fun w' => w'.cell? ⟨w.heap.size, 0, none⟩ = some (.int .i64 x.level) ∧ w'.cell? (ad.add ((k - 1) * 5)) = some (.int .i64 p.level) ∧ w'.cell? ⟨(ad.add ((k - 1) * 5)).block, (ad.add ((k - 1) * 5)).off + 1, none⟩ = some (.int .i64 p.kind)) (by kernel_rfl) hS.out (fun hHeld => ?_)
    refine tks (oi := ⟨_, _, _, _, _, _⟩) (v := ?_) 0 rfl (.inl ⟨by rfl, ?_⟩) ?_; rotate_left
    · (intro wS hSw; (try dsimp only at hSw); go_simp); all_goals with_reducible rfl
    try go_frame
    refine tks (oi := ⟨_, _, _, _, _, _⟩) (v := ?_) 1 rfl (.inl ⟨by rfl, ?_⟩) ?_; rotate_left
    · (intro wS hSw; (try dsimp only at hSw); go_simp); all_goals with_reducible rfl
    try go_frame
    refine tks (oi := ⟨_, _, _, _, _, _⟩) (v := ?_) 2 rfl (.inl ⟨by rfl, ?_⟩) ?_; rotate_left
    · (intro wS hSw; (try dsimp only at hSw); go_simp); all_goals with_reducible rfl
    try go_frame
    refine tks (oi := ⟨_, _, _, _, _, _⟩) (v := ?_) 3 rfl (.inl ⟨by rfl, ?_⟩) ?_; rotate_left
    · (intro wS hSw; (try dsimp only at hSw); go_simp); all_goals with_reducible rfl
    try go_frame
    refine tks (oi := ⟨_, _, _, _, _, _⟩) (v := ?_) 4 rfl (.inl ⟨by rfl, ?_⟩) ?_; rotate_left
    · (intro wS hSw; (try dsimp only at hSw); go_simp); all_goals with_reducible rfl
    try go_frame
    refine tks (oi := ⟨_, _, _, _, _, _⟩) (v := ?_) 5 rfl (.inl ⟨by rfl, ?_⟩) ?_; rotate_left
    · (intro wS hSw; (try dsimp only at hSw); go_simp); all_goals with_reducible rfl
    try go_frame
    refine tks (oi := ⟨_, _, _, _, _, _⟩) (v := ?_) 6 rfl (.inl ⟨by rfl, ?_⟩) ?_; rotate_left
    · (intro wS hSw; (try dsimp only at hSw); go_simp); all_goals with_reducible rfl
    try go_frame
    refine tks (oi := ⟨_, _, _, _, _, _⟩) (v := undef) 7 rfl (.inr ⟨by rfl, rfl⟩) ?_
    try go_frame
    refine tks (oi := ⟨_, _, _, _, _, _⟩) (v := undef) 8 rfl (.inr ⟨by rfl, rfl⟩) ?_
    try go_frame
    refine tks (oi := ⟨_, _, _, _, _, _⟩) (v := undef) 9 rfl (.inr ⟨by rfl, rfl⟩) ?_
    try go_frame
    refine tks (oi := ⟨_, _, _, _, _, _⟩) (v := undef) 10 rfl (.inr ⟨by rfl, rfl⟩) ?_
    try go_frame
    refine tks (oi := ⟨_, _, _, _, _, _⟩) (v := undef) 11 rfl (.inr ⟨by rfl, rfl⟩) ?_
    try go_frame
    refine tks (oi := ⟨_, _, _, _, _, _⟩) (v := undef) 12 rfl (.inr ⟨by rfl, rfl⟩) ?_
    try go_frame
    refine tks (oi := ⟨_, _, _, _, _, _⟩) (v := undef) 13 rfl (.inr ⟨by rfl, rfl⟩) ?_
    try go_frame
    refine tks (oi := ⟨_, _, _, _, _, _⟩) (v := undef) 14 rfl (.inr ⟨by rfl, rfl⟩) ?_
    try go_frame
    refine tks (oi := ⟨_, _, _, _, _, _⟩) (v := undef) 15 rfl (.inr ⟨by rfl, rfl⟩) ?_
    try go_frame
    refine tks (oi := ⟨_, _, _, _, _, _⟩) (v := undef) 16 rfl (.inr ⟨by rfl, rfl⟩) ?_
    try go_frame
    refine tks (oi := ⟨_, _, _, _, _, _⟩) (v := ?_) 17 rfl (.inl ⟨by rfl, ?_⟩) ?_; rotate_left
    · (intro wS hSw; (try dsimp only at hSw); go_simp); all_goals with_reducible rfl
    try go_frame
    refine tks (oi := ⟨_, _, _, _, _, _⟩) (v := ?_) 18 rfl (.inl ⟨by rfl, ?_⟩) ?_; rotate_left
    · (intro wS hSw; (try dsimp only at hSw); go_simp); all_goals with_reducible rfl
    try go_frame
    refine tks (oi := ⟨_, _, _, _, _, _⟩) (v := undef) 19 rfl (.inr ⟨by rfl, rfl⟩) ?_
    try go_frame
    refine tks (oi := ⟨_, _, _, _, _, _⟩) (v := undef) 20 rfl (.inr ⟨by rfl, rfl⟩) ?_
    try go_frame
    refine tks (oi := ⟨_, _, _, _, _, _⟩) (v := undef) 21 rfl (.inr ⟨by rfl, rfl⟩) ?_
    try go_frame
    refine tks (oi := ⟨_, _, _, _, _, _⟩) (v := undef) 22 rfl (.inr ⟨by rfl, rfl⟩) ?_
    try go_frame
    refine tks (oi := ⟨_, _, _, _, _, _⟩) (v := undef) 23 rfl (.inr ⟨by rfl, rfl⟩) ?_
    try go_frame
    refine tks (oi := ⟨_, _, _, _, _, _⟩) (v := undef) 24 rfl (.inr ⟨by rfl, rfl⟩) ?_
    try go_frame
    refine tks (oi := ⟨_, _, _, _, _, _⟩) (v := undef) 25 rfl (.inr ⟨by rfl, rfl⟩) ?_
    try go_frame
    refine tks (oi := ⟨_, _, _, _, _, _⟩) (v := undef) 26 rfl (.inr ⟨by rfl, rfl⟩) ?_
    try go_frame
    refine tks (oi := ⟨_, _, _, _, _, _⟩) (v := undef) 27 rfl (.inr ⟨by rfl, rfl⟩) ?_
    try go_frame
    refine tks (oi := ⟨_, _, _, _, _, _⟩) (v := undef) 28 rfl (.inr ⟨by rfl, rfl⟩) ?_
    try go_frame
    refine tks (oi := ⟨_, _, _, _, _, _⟩) (v := undef) 29 rfl (.inr ⟨by rfl, rfl⟩) ?_
    try go_frame
    refine tks (oi := ⟨_, _, _, _, _, _⟩) (v := undef) 30 rfl (.inr ⟨by rfl, rfl⟩) ?_
    try go_frame
    refine tks (oi := ⟨_, _, _, _, _, _⟩) (v := undef) 31 rfl (.inr ⟨by rfl, rfl⟩) ?_
    try go_frame
    refine tks (oi := ⟨_, _, _, _, _, _⟩) (v := undef) 32 rfl (.inr ⟨by rfl, rfl⟩) ?_
    try go_frame
    refine tks (oi := ⟨_, _, _, _, _, _⟩) (v := undef) 33 rfl (.inr ⟨by rfl, rfl⟩) ?_
    try go_frame
    refine tks (oi := ⟨_, _, _, _, _, _⟩) (v := undef) 34 rfl (.inr ⟨by rfl, rfl⟩) ?_
    try go_frame
    refine tks (oi := ⟨_, _, _, _, _, _⟩) (v := undef) 35 rfl (.inr ⟨by rfl, rfl⟩) ?_
    try go_frame
    refine tks (oi := ⟨_, _, _, _, _, _⟩) (v := undef) 36 rfl (.inr ⟨by rfl, rfl⟩) ?_
    try go_frame
    refine tks (oi := ⟨_, _, _, _, _, _⟩) (v := ?_) 37 rfl (.inl ⟨by rfl, ?_⟩) ?_; rotate_left
    · (intro wS hSw; (try dsimp only at hSw); go_simp); all_goals with_reducible rfl
    try go_frame
    refine tks (oi := ⟨_, _, _, _, _, _⟩) (v := ?_) 38 rfl (.inl ⟨by rfl, ?_⟩) ?_; rotate_left
    · (intro wS hSw; (try dsimp only at hSw); go_simp); all_goals with_reducible rfl
    try go_frame
    refine tks (oi := ⟨_, _, _, _, _, _⟩) (v := ?_) 39 rfl (.inl ⟨by rfl, ?_⟩) ?_; rotate_left
    · (intro wS hSw; (try dsimp only at hSw); go_simp); all_goals with_reducible rfl
    try go_frame
    refine wpAnyH_done (by kernel_rfl) ?_ _
    clear hW1
    go_wp2_with fail
    go_ret
    exact ⟨by rw [← hv.out]; rfl, hbW.trans ((Below.refl _ W1).drew.mono (Nat.le_of_lt hzW))⟩
  have n1 : 1 ≤ x.level := by omega
  by_cases c2 : p.level + 1 < x.level
  · skip
    have hv : Hid (69 = V) := by
      show _ = _
      rw [← hV']
      unfold placeE
      exact (if_pos (.inr (.inl c2))).symm
    have d1 : decide (x.level < 1) = false := by simp; omega
    have w1 : IntKind.i64.wrap (p.level + 1) = p.level + 1 := IntWalk.i64_in _ (by omega)
    have d2 : decide (p.level + 1 < x.level) = true := by simp; omega
    have wk : IntKind.i64.wrap ((k : Int) - 1) = (k : Int) - 1 := IntWalk.i64_in _ (by omega)
    have kn : ((k : Int) - 1).toNat = k - 1 := by omega
    clear hV'
    go_enter Try.func50, Try.ntmps50
    go_wp2_with fail
    rw [← hW1.out]
    refine wp_region_held_drew (S := fun w' => w'.cell? ⟨w.heap.size, 0, none⟩ = some (.int .i64 x.level) ∧ w'.cell? (ad.add ((k - 1) * 5)) = some (.int .i64 p.level) ∧ w'.cell? ⟨(ad.add ((k - 1) * 5)).block, (ad.add ((k - 1) * 5)).off + 1, none⟩ = some (.int .i64 p.kind)) (by kernel_rfl) hS.out (fun hHeld => ?_)
    refine tks (oi := ⟨_, _, _, _, _, _⟩) (v := ?_) 0 rfl (.inl ⟨by rfl, ?_⟩) ?_; rotate_left
    · (intro wS hSw; (try dsimp only at hSw); go_simp); all_goals with_reducible rfl
    try go_frame
    refine tks (oi := ⟨_, _, _, _, _, _⟩) (v := ?_) 1 rfl (.inl ⟨by rfl, ?_⟩) ?_; rotate_left
    · (intro wS hSw; (try dsimp only at hSw); go_simp); all_goals with_reducible rfl
    try go_frame
    refine tks (oi := ⟨_, _, _, _, _, _⟩) (v := ?_) 2 rfl (.inl ⟨by rfl, ?_⟩) ?_; rotate_left
    · (intro wS hSw; (try dsimp only at hSw); go_simp); all_goals with_reducible rfl
    try go_frame
    refine tks (oi := ⟨_, _, _, _, _, _⟩) (v := ?_) 3 rfl (.inl ⟨by rfl, ?_⟩) ?_; rotate_left
    · (intro wS hSw; (try dsimp only at hSw); go_simp); all_goals with_reducible rfl
    try go_frame
    refine tks (oi := ⟨_, _, _, _, _, _⟩) (v := ?_) 4 rfl (.inl ⟨by rfl, ?_⟩) ?_; rotate_left
    · (intro wS hSw; (try dsimp only at hSw); go_simp); all_goals with_reducible rfl
    try go_frame
    refine tks (oi := ⟨_, _, _, _, _, _⟩) (v := ?_) 5 rfl (.inl ⟨by rfl, ?_⟩) ?_; rotate_left
    · (intro wS hSw; (try dsimp only at hSw); go_simp); all_goals with_reducible rfl
    try go_frame
    refine tks (oi := ⟨_, _, _, _, _, _⟩) (v := ?_) 6 rfl (.inl ⟨by rfl, ?_⟩) ?_; rotate_left
    · (intro wS hSw; (try dsimp only at hSw); go_simp); all_goals with_reducible rfl
    try go_frame
    refine tks (oi := ⟨_, _, _, _, _, _⟩) (v := ?_) 7 rfl (.inl ⟨by rfl, ?_⟩) ?_; rotate_left
    · (intro wS hSw; (try dsimp only at hSw); go_simp); all_goals with_reducible rfl
    try go_frame
    refine tks (oi := ⟨_, _, _, _, _, _⟩) (v := ?_) 8 rfl (.inl ⟨by rfl, ?_⟩) ?_; rotate_left
    · (intro wS hSw; (try dsimp only at hSw); go_simp); all_goals with_reducible rfl
    try go_frame
    refine tks (oi := ⟨_, _, _, _, _, _⟩) (v := ?_) 9 rfl (.inl ⟨by rfl, ?_⟩) ?_; rotate_left
    · (intro wS hSw; (try dsimp only at hSw); go_simp); all_goals with_reducible rfl
    try go_frame
    refine tks (oi := ⟨_, _, _, _, _, _⟩) (v := ?_) 10 rfl (.inl ⟨by rfl, ?_⟩) ?_; rotate_left
    · (intro wS hSw; (try dsimp only at hSw); go_simp); all_goals with_reducible rfl
    try go_frame
    refine tks (oi := ⟨_, _, _, _, _, _⟩) (v := ?_) 11 rfl (.inl ⟨by rfl, ?_⟩) ?_; rotate_left
    · (intro wS hSw; (try dsimp only at hSw); go_simp); all_goals with_reducible rfl
    try go_frame
    refine tks (oi := ⟨_, _, _, _, _, _⟩) (v := ?_) 12 rfl (.inl ⟨by rfl, ?_⟩) ?_; rotate_left
    · (intro wS hSw; (try dsimp only at hSw); go_simp); all_goals with_reducible rfl
    try go_frame
    refine tks (oi := ⟨_, _, _, _, _, _⟩) (v := ?_) 13 rfl (.inl ⟨by rfl, ?_⟩) ?_; rotate_left
    · (intro wS hSw; (try dsimp only at hSw); go_simp); all_goals with_reducible rfl
    try go_frame
    refine tks (oi := ⟨_, _, _, _, _, _⟩) (v := ?_) 14 rfl (.inl ⟨by rfl, ?_⟩) ?_; rotate_left
    · (intro wS hSw; (try dsimp only at hSw); go_simp); all_goals with_reducible rfl
    try go_frame
    refine tks (oi := ⟨_, _, _, _, _, _⟩) (v := ?_) 15 rfl (.inl ⟨by rfl, ?_⟩) ?_; rotate_left
    · (intro wS hSw; (try dsimp only at hSw); go_simp); all_goals with_reducible rfl
    try go_frame
    refine tks (oi := ⟨_, _, _, _, _, _⟩) (v := ?_) 16 rfl (.inl ⟨by rfl, ?_⟩) ?_; rotate_left
    · (intro wS hSw; (try dsimp only at hSw); go_simp); all_goals with_reducible rfl
    try go_frame
    refine tks (oi := ⟨_, _, _, _, _, _⟩) (v := ?_) 17 rfl (.inl ⟨by rfl, ?_⟩) ?_; rotate_left
    · (intro wS hSw; (try dsimp only at hSw); go_simp); all_goals with_reducible rfl
    try go_frame
    refine tks (oi := ⟨_, _, _, _, _, _⟩) (v := ?_) 18 rfl (.inl ⟨by rfl, ?_⟩) ?_; rotate_left
    · (intro wS hSw; (try dsimp only at hSw); go_simp); all_goals with_reducible rfl
    try go_frame
    refine tks (oi := ⟨_, _, _, _, _, _⟩) (v := undef) 19 rfl (.inr ⟨by rfl, rfl⟩) ?_
    try go_frame
    refine tks (oi := ⟨_, _, _, _, _, _⟩) (v := undef) 20 rfl (.inr ⟨by rfl, rfl⟩) ?_
    try go_frame
    refine tks (oi := ⟨_, _, _, _, _, _⟩) (v := undef) 21 rfl (.inr ⟨by rfl, rfl⟩) ?_
    try go_frame
    refine tks (oi := ⟨_, _, _, _, _, _⟩) (v := undef) 22 rfl (.inr ⟨by rfl, rfl⟩) ?_
    try go_frame
    refine tks (oi := ⟨_, _, _, _, _, _⟩) (v := undef) 23 rfl (.inr ⟨by rfl, rfl⟩) ?_
    try go_frame
    refine tks (oi := ⟨_, _, _, _, _, _⟩) (v := undef) 24 rfl (.inr ⟨by rfl, rfl⟩) ?_
    try go_frame
    refine tks (oi := ⟨_, _, _, _, _, _⟩) (v := undef) 25 rfl (.inr ⟨by rfl, rfl⟩) ?_
    try go_frame
    refine tks (oi := ⟨_, _, _, _, _, _⟩) (v := undef) 26 rfl (.inr ⟨by rfl, rfl⟩) ?_
    try go_frame
    refine tks (oi := ⟨_, _, _, _, _, _⟩) (v := undef) 27 rfl (.inr ⟨by rfl, rfl⟩) ?_
    try go_frame
    refine tks (oi := ⟨_, _, _, _, _, _⟩) (v := undef) 28 rfl (.inr ⟨by rfl, rfl⟩) ?_
    try go_frame
    refine tks (oi := ⟨_, _, _, _, _, _⟩) (v := undef) 29 rfl (.inr ⟨by rfl, rfl⟩) ?_
    try go_frame
    refine tks (oi := ⟨_, _, _, _, _, _⟩) (v := undef) 30 rfl (.inr ⟨by rfl, rfl⟩) ?_
    try go_frame
    refine tks (oi := ⟨_, _, _, _, _, _⟩) (v := undef) 31 rfl (.inr ⟨by rfl, rfl⟩) ?_
    try go_frame
    refine tks (oi := ⟨_, _, _, _, _, _⟩) (v := undef) 32 rfl (.inr ⟨by rfl, rfl⟩) ?_
    try go_frame
    refine tks (oi := ⟨_, _, _, _, _, _⟩) (v := undef) 33 rfl (.inr ⟨by rfl, rfl⟩) ?_
    try go_frame
    refine tks (oi := ⟨_, _, _, _, _, _⟩) (v := undef) 34 rfl (.inr ⟨by rfl, rfl⟩) ?_
    try go_frame
    refine tks (oi := ⟨_, _, _, _, _, _⟩) (v := undef) 35 rfl (.inr ⟨by rfl, rfl⟩) ?_
    try go_frame
    refine tks (oi := ⟨_, _, _, _, _, _⟩) (v := undef) 36 rfl (.inr ⟨by rfl, rfl⟩) ?_
    try go_frame
    refine tks (oi := ⟨_, _, _, _, _, _⟩) (v := ?_) 37 rfl (.inl ⟨by rfl, ?_⟩) ?_; rotate_left
    · (intro wS hSw; (try dsimp only at hSw); go_simp); all_goals with_reducible rfl
    try go_frame
    refine tks (oi := ⟨_, _, _, _, _, _⟩) (v := ?_) 38 rfl (.inl ⟨by rfl, ?_⟩) ?_; rotate_left
    · (intro wS hSw; (try dsimp only at hSw); go_simp); all_goals with_reducible rfl
    try go_frame
    refine tks (oi := ⟨_, _, _, _, _, _⟩) (v := ?_) 39 rfl (.inl ⟨by rfl, ?_⟩) ?_; rotate_left
    · (intro wS hSw; (try dsimp only at hSw); go_simp); all_goals with_reducible rfl
    try go_frame
    refine wpAnyH_done (by kernel_rfl) ?_ _
    clear hW1
    go_wp2_with fail
    go_ret
    exact ⟨by rw [← hv.out]; rfl, hbW.trans ((Below.refl _ W1).drew.mono (Nat.le_of_lt hzW))⟩
  by_cases c3 : p.level < x.level
  · by_cases c4 : p.kind = 2
    · skip
      have hv : Hid (69 = V) := by
        show _ = _
        rw [← hV']
        unfold placeE
        exact (if_pos (.inr (.inr ⟨c3, c4⟩))).symm
      have d1 : decide (x.level < 1) = false := by simp; omega
      have w1 : IntKind.i64.wrap (p.level + 1) = p.level + 1 := IntWalk.i64_in _ (by omega)
      have d2 : decide (p.level + 1 < x.level) = false := by simp; omega
      have d3 : decide (p.level < x.level) = true := by simp; omega
      have d4 : (p.kind == 2) = true := by simp [c4]
      have wk : IntKind.i64.wrap ((k : Int) - 1) = (k : Int) - 1 := IntWalk.i64_in _ (by omega)
      have kn : ((k : Int) - 1).toNat = k - 1 := by omega
      clear hV'
      go_enter Try.func50, Try.ntmps50
      go_wp2_with fail
      rw [← hW1.out]
      refine wp_region_held_drew (S := fun w' => w'.cell? ⟨w.heap.size, 0, none⟩ = some (.int .i64 x.level) ∧ w'.cell? (ad.add ((k - 1) * 5)) = some (.int .i64 p.level) ∧ w'.cell? ⟨(ad.add ((k - 1) * 5)).block, (ad.add ((k - 1) * 5)).off + 1, none⟩ = some (.int .i64 p.kind)) (by kernel_rfl) hS.out (fun hHeld => ?_)
      refine tks (oi := ⟨_, _, _, _, _, _⟩) (v := ?_) 0 rfl (.inl ⟨by rfl, ?_⟩) ?_; rotate_left
      · (intro wS hSw; (try dsimp only at hSw); go_simp); all_goals with_reducible rfl
      try go_frame
      refine tks (oi := ⟨_, _, _, _, _, _⟩) (v := ?_) 1 rfl (.inl ⟨by rfl, ?_⟩) ?_; rotate_left
      · (intro wS hSw; (try dsimp only at hSw); go_simp); all_goals with_reducible rfl
      try go_frame
      refine tks (oi := ⟨_, _, _, _, _, _⟩) (v := ?_) 2 rfl (.inl ⟨by rfl, ?_⟩) ?_; rotate_left
      · (intro wS hSw; (try dsimp only at hSw); go_simp); all_goals with_reducible rfl
      try go_frame
      refine tks (oi := ⟨_, _, _, _, _, _⟩) (v := ?_) 3 rfl (.inl ⟨by rfl, ?_⟩) ?_; rotate_left
      · (intro wS hSw; (try dsimp only at hSw); go_simp); all_goals with_reducible rfl
      try go_frame
      refine tks (oi := ⟨_, _, _, _, _, _⟩) (v := ?_) 4 rfl (.inl ⟨by rfl, ?_⟩) ?_; rotate_left
      · (intro wS hSw; (try dsimp only at hSw); go_simp); all_goals with_reducible rfl
      try go_frame
      refine tks (oi := ⟨_, _, _, _, _, _⟩) (v := ?_) 5 rfl (.inl ⟨by rfl, ?_⟩) ?_; rotate_left
      · (intro wS hSw; (try dsimp only at hSw); go_simp); all_goals with_reducible rfl
      try go_frame
      refine tks (oi := ⟨_, _, _, _, _, _⟩) (v := ?_) 6 rfl (.inl ⟨by rfl, ?_⟩) ?_; rotate_left
      · (intro wS hSw; (try dsimp only at hSw); go_simp); all_goals with_reducible rfl
      try go_frame
      refine tks (oi := ⟨_, _, _, _, _, _⟩) (v := ?_) 7 rfl (.inl ⟨by rfl, ?_⟩) ?_; rotate_left
      · (intro wS hSw; (try dsimp only at hSw); go_simp); all_goals with_reducible rfl
      try go_frame
      refine tks (oi := ⟨_, _, _, _, _, _⟩) (v := ?_) 8 rfl (.inl ⟨by rfl, ?_⟩) ?_; rotate_left
      · (intro wS hSw; (try dsimp only at hSw); go_simp); all_goals with_reducible rfl
      try go_frame
      refine tks (oi := ⟨_, _, _, _, _, _⟩) (v := ?_) 9 rfl (.inl ⟨by rfl, ?_⟩) ?_; rotate_left
      · (intro wS hSw; (try dsimp only at hSw); go_simp); all_goals with_reducible rfl
      try go_frame
      refine tks (oi := ⟨_, _, _, _, _, _⟩) (v := ?_) 10 rfl (.inl ⟨by rfl, ?_⟩) ?_; rotate_left
      · (intro wS hSw; (try dsimp only at hSw); go_simp); all_goals with_reducible rfl
      try go_frame
      refine tks (oi := ⟨_, _, _, _, _, _⟩) (v := ?_) 11 rfl (.inl ⟨by rfl, ?_⟩) ?_; rotate_left
      · (intro wS hSw; (try dsimp only at hSw); go_simp); all_goals with_reducible rfl
      try go_frame
      refine tks (oi := ⟨_, _, _, _, _, _⟩) (v := ?_) 12 rfl (.inl ⟨by rfl, ?_⟩) ?_; rotate_left
      · (intro wS hSw; (try dsimp only at hSw); go_simp); all_goals with_reducible rfl
      try go_frame
      refine tks (oi := ⟨_, _, _, _, _, _⟩) (v := ?_) 13 rfl (.inl ⟨by rfl, ?_⟩) ?_; rotate_left
      · (intro wS hSw; (try dsimp only at hSw); go_simp); all_goals with_reducible rfl
      try go_frame
      refine tks (oi := ⟨_, _, _, _, _, _⟩) (v := ?_) 14 rfl (.inl ⟨by rfl, ?_⟩) ?_; rotate_left
      · (intro wS hSw; (try dsimp only at hSw); go_simp); all_goals with_reducible rfl
      try go_frame
      refine tks (oi := ⟨_, _, _, _, _, _⟩) (v := ?_) 15 rfl (.inl ⟨by rfl, ?_⟩) ?_; rotate_left
      · (intro wS hSw; (try dsimp only at hSw); go_simp); all_goals with_reducible rfl
      try go_frame
      refine tks (oi := ⟨_, _, _, _, _, _⟩) (v := ?_) 16 rfl (.inl ⟨by rfl, ?_⟩) ?_; rotate_left
      · (intro wS hSw; (try dsimp only at hSw); go_simp); all_goals with_reducible rfl
      try go_frame
      refine tks (oi := ⟨_, _, _, _, _, _⟩) (v := ?_) 17 rfl (.inl ⟨by rfl, ?_⟩) ?_; rotate_left
      · (intro wS hSw; (try dsimp only at hSw); go_simp); all_goals with_reducible rfl
      try go_frame
      refine tks (oi := ⟨_, _, _, _, _, _⟩) (v := ?_) 18 rfl (.inl ⟨by rfl, ?_⟩) ?_; rotate_left
      · (intro wS hSw; (try dsimp only at hSw); go_simp); all_goals with_reducible rfl
      try go_frame
      refine tks (oi := ⟨_, _, _, _, _, _⟩) (v := ?_) 19 rfl (.inl ⟨by rfl, ?_⟩) ?_; rotate_left
      · (intro wS hSw; (try dsimp only at hSw); go_simp); all_goals with_reducible rfl
      try go_frame
      refine tks (oi := ⟨_, _, _, _, _, _⟩) (v := ?_) 20 rfl (.inl ⟨by rfl, ?_⟩) ?_; rotate_left
      · (intro wS hSw; (try dsimp only at hSw); go_simp); all_goals with_reducible rfl
      try go_frame
      refine tks (oi := ⟨_, _, _, _, _, _⟩) (v := ?_) 21 rfl (.inl ⟨by rfl, ?_⟩) ?_; rotate_left
      · (intro wS hSw; (try dsimp only at hSw); go_simp); all_goals with_reducible rfl
      try go_frame
      refine tks (oi := ⟨_, _, _, _, _, _⟩) (v := ?_) 22 rfl (.inl ⟨by rfl, ?_⟩) ?_; rotate_left
      · (intro wS hSw; (try dsimp only at hSw); go_simp); all_goals with_reducible rfl
      try go_frame
      refine tks (oi := ⟨_, _, _, _, _, _⟩) (v := ?_) 23 rfl (.inl ⟨by rfl, ?_⟩) ?_; rotate_left
      · (intro wS hSw; (try dsimp only at hSw); go_simp); all_goals with_reducible rfl
      try go_frame
      refine tks (oi := ⟨_, _, _, _, _, _⟩) (v := ?_) 24 rfl (.inl ⟨by rfl, ?_⟩) ?_; rotate_left
      · (intro wS hSw; (try dsimp only at hSw); go_simp); all_goals with_reducible rfl
      try go_frame
      refine tks (oi := ⟨_, _, _, _, _, _⟩) (v := ?_) 25 rfl (.inl ⟨by rfl, ?_⟩) ?_; rotate_left
      · (intro wS hSw; (try dsimp only at hSw); go_simp); all_goals with_reducible rfl
      try go_frame
      refine tks (oi := ⟨_, _, _, _, _, _⟩) (v := ?_) 26 rfl (.inl ⟨by rfl, ?_⟩) ?_; rotate_left
      · (intro wS hSw; (try dsimp only at hSw); go_simp); all_goals with_reducible rfl
      try go_frame
      refine tks (oi := ⟨_, _, _, _, _, _⟩) (v := ?_) 27 rfl (.inl ⟨by rfl, ?_⟩) ?_; rotate_left
      · (intro wS hSw; (try dsimp only at hSw); go_simp); all_goals with_reducible rfl
      try go_frame
      refine tks (oi := ⟨_, _, _, _, _, _⟩) (v := ?_) 28 rfl (.inl ⟨by rfl, ?_⟩) ?_; rotate_left
      · (intro wS hSw; (try dsimp only at hSw); go_simp); all_goals with_reducible rfl
      try go_frame
      refine tks (oi := ⟨_, _, _, _, _, _⟩) (v := ?_) 29 rfl (.inl ⟨by rfl, ?_⟩) ?_; rotate_left
      · (intro wS hSw; (try dsimp only at hSw); go_simp); all_goals with_reducible rfl
      try go_frame
      refine tks (oi := ⟨_, _, _, _, _, _⟩) (v := ?_) 30 rfl (.inl ⟨by rfl, ?_⟩) ?_; rotate_left
      · (intro wS hSw; (try dsimp only at hSw); go_simp); all_goals with_reducible rfl
      try go_frame
      refine tks (oi := ⟨_, _, _, _, _, _⟩) (v := ?_) 31 rfl (.inl ⟨by rfl, ?_⟩) ?_; rotate_left
      · (intro wS hSw; (try dsimp only at hSw); go_simp); all_goals with_reducible rfl
      try go_frame
      refine tks (oi := ⟨_, _, _, _, _, _⟩) (v := ?_) 32 rfl (.inl ⟨by rfl, ?_⟩) ?_; rotate_left
      · (intro wS hSw; (try dsimp only at hSw); go_simp); all_goals with_reducible rfl
      try go_frame
      refine tks (oi := ⟨_, _, _, _, _, _⟩) (v := ?_) 33 rfl (.inl ⟨by rfl, ?_⟩) ?_; rotate_left
      · (intro wS hSw; (try dsimp only at hSw); go_simp); all_goals with_reducible rfl
      try go_frame
      refine tks (oi := ⟨_, _, _, _, _, _⟩) (v := ?_) 34 rfl (.inl ⟨by rfl, ?_⟩) ?_; rotate_left
      · (intro wS hSw; (try dsimp only at hSw); go_simp); all_goals with_reducible rfl
      try go_frame
      refine tks (oi := ⟨_, _, _, _, _, _⟩) (v := ?_) 35 rfl (.inl ⟨by rfl, ?_⟩) ?_; rotate_left
      · (intro wS hSw; (try dsimp only at hSw); go_simp); all_goals with_reducible rfl
      try go_frame
      refine tks (oi := ⟨_, _, _, _, _, _⟩) (v := ?_) 36 rfl (.inl ⟨by rfl, ?_⟩) ?_; rotate_left
      · (intro wS hSw; (try dsimp only at hSw); go_simp); all_goals with_reducible rfl
      try go_frame
      refine tks (oi := ⟨_, _, _, _, _, _⟩) (v := ?_) 37 rfl (.inl ⟨by rfl, ?_⟩) ?_; rotate_left
      · (intro wS hSw; (try dsimp only at hSw); go_simp); all_goals with_reducible rfl
      try go_frame
      refine tks (oi := ⟨_, _, _, _, _, _⟩) (v := ?_) 38 rfl (.inl ⟨by rfl, ?_⟩) ?_; rotate_left
      · (intro wS hSw; (try dsimp only at hSw); go_simp); all_goals with_reducible rfl
      try go_frame
      refine tks (oi := ⟨_, _, _, _, _, _⟩) (v := ?_) 39 rfl (.inl ⟨by rfl, ?_⟩) ?_; rotate_left
      · (intro wS hSw; (try dsimp only at hSw); go_simp); all_goals with_reducible rfl
      try go_frame
      refine wpAnyH_done (by kernel_rfl) ?_ _
      clear hW1
      go_wp2_with fail
      go_ret
      exact ⟨by rw [← hv.out]; rfl, hbW.trans ((Below.refl _ W1).drew.mono (Nat.le_of_lt hzW))⟩
    · skip
      have hpl : placeE (some p) k x = (if 40 ≤ x.level then (42 : Int) else if 1000 ≤ k then 43 else 0) := by unfold placeE; exact if_neg (by omega)
      have hv' : Hid ((if 40 ≤ x.level then (42 : Int) else if 1000 ≤ k then 43 else 0) = V) := by show _ = _; rw [← hV', hpl]
      clear hpl
      have d1 : decide (x.level < 1) = false := by simp; omega
      have w1 : IntKind.i64.wrap (p.level + 1) = p.level + 1 := IntWalk.i64_in _ (by omega)
      have d2 : decide (p.level + 1 < x.level) = false := by simp; omega
      have d3 : decide (p.level < x.level) = true := by simp; omega
      have d4 : (p.kind == 2) = false := by simp [c4]
      have wk : IntKind.i64.wrap ((k : Int) - 1) = (k : Int) - 1 := IntWalk.i64_in _ (by omega)
      have kn : ((k : Int) - 1).toNat = k - 1 := by omega
      clear hV'
      go_enter Try.func50, Try.ntmps50
      go_wp2_with fail
      rw [← hW1.out]
      refine wp_region_held_drew (S := fun w' => w'.cell? ⟨w.heap.size, 0, none⟩ = some (.int .i64 x.level) ∧ w'.cell? (ad.add ((k - 1) * 5)) = some (.int .i64 p.level) ∧ w'.cell? ⟨(ad.add ((k - 1) * 5)).block, (ad.add ((k - 1) * 5)).off + 1, none⟩ = some (.int .i64 p.kind)) (by kernel_rfl) hS.out (fun hHeld => ?_)
      refine tks (oi := ⟨_, _, _, _, _, _⟩) (v := ?_) 0 rfl (.inl ⟨by rfl, ?_⟩) ?_; rotate_left
      · (intro wS hSw; (try dsimp only at hSw); go_simp); all_goals with_reducible rfl
      try go_frame
      refine tks (oi := ⟨_, _, _, _, _, _⟩) (v := ?_) 1 rfl (.inl ⟨by rfl, ?_⟩) ?_; rotate_left
      · (intro wS hSw; (try dsimp only at hSw); go_simp); all_goals with_reducible rfl
      try go_frame
      refine tks (oi := ⟨_, _, _, _, _, _⟩) (v := ?_) 2 rfl (.inl ⟨by rfl, ?_⟩) ?_; rotate_left
      · (intro wS hSw; (try dsimp only at hSw); go_simp); all_goals with_reducible rfl
      try go_frame
      refine tks (oi := ⟨_, _, _, _, _, _⟩) (v := ?_) 3 rfl (.inl ⟨by rfl, ?_⟩) ?_; rotate_left
      · (intro wS hSw; (try dsimp only at hSw); go_simp); all_goals with_reducible rfl
      try go_frame
      refine tks (oi := ⟨_, _, _, _, _, _⟩) (v := ?_) 4 rfl (.inl ⟨by rfl, ?_⟩) ?_; rotate_left
      · (intro wS hSw; (try dsimp only at hSw); go_simp); all_goals with_reducible rfl
      try go_frame
      refine tks (oi := ⟨_, _, _, _, _, _⟩) (v := ?_) 5 rfl (.inl ⟨by rfl, ?_⟩) ?_; rotate_left
      · (intro wS hSw; (try dsimp only at hSw); go_simp); all_goals with_reducible rfl
      try go_frame
      refine tks (oi := ⟨_, _, _, _, _, _⟩) (v := ?_) 6 rfl (.inl ⟨by rfl, ?_⟩) ?_; rotate_left
      · (intro wS hSw; (try dsimp only at hSw); go_simp); all_goals with_reducible rfl
      try go_frame
      refine tks (oi := ⟨_, _, _, _, _, _⟩) (v := ?_) 7 rfl (.inl ⟨by rfl, ?_⟩) ?_; rotate_left
      · (intro wS hSw; (try dsimp only at hSw); go_simp); all_goals with_reducible rfl
      try go_frame
      refine tks (oi := ⟨_, _, _, _, _, _⟩) (v := ?_) 8 rfl (.inl ⟨by rfl, ?_⟩) ?_; rotate_left
      · (intro wS hSw; (try dsimp only at hSw); go_simp); all_goals with_reducible rfl
      try go_frame
      refine tks (oi := ⟨_, _, _, _, _, _⟩) (v := ?_) 9 rfl (.inl ⟨by rfl, ?_⟩) ?_; rotate_left
      · (intro wS hSw; (try dsimp only at hSw); go_simp); all_goals with_reducible rfl
      try go_frame
      refine tks (oi := ⟨_, _, _, _, _, _⟩) (v := ?_) 10 rfl (.inl ⟨by rfl, ?_⟩) ?_; rotate_left
      · (intro wS hSw; (try dsimp only at hSw); go_simp); all_goals with_reducible rfl
      try go_frame
      refine tks (oi := ⟨_, _, _, _, _, _⟩) (v := ?_) 11 rfl (.inl ⟨by rfl, ?_⟩) ?_; rotate_left
      · (intro wS hSw; (try dsimp only at hSw); go_simp); all_goals with_reducible rfl
      try go_frame
      refine tks (oi := ⟨_, _, _, _, _, _⟩) (v := ?_) 12 rfl (.inl ⟨by rfl, ?_⟩) ?_; rotate_left
      · (intro wS hSw; (try dsimp only at hSw); go_simp); all_goals with_reducible rfl
      try go_frame
      refine tks (oi := ⟨_, _, _, _, _, _⟩) (v := ?_) 13 rfl (.inl ⟨by rfl, ?_⟩) ?_; rotate_left
      · (intro wS hSw; (try dsimp only at hSw); go_simp); all_goals with_reducible rfl
      try go_frame
      refine tks (oi := ⟨_, _, _, _, _, _⟩) (v := ?_) 14 rfl (.inl ⟨by rfl, ?_⟩) ?_; rotate_left
      · (intro wS hSw; (try dsimp only at hSw); go_simp); all_goals with_reducible rfl
      try go_frame
      refine tks (oi := ⟨_, _, _, _, _, _⟩) (v := ?_) 15 rfl (.inl ⟨by rfl, ?_⟩) ?_; rotate_left
      · (intro wS hSw; (try dsimp only at hSw); go_simp); all_goals with_reducible rfl
      try go_frame
      refine tks (oi := ⟨_, _, _, _, _, _⟩) (v := ?_) 16 rfl (.inl ⟨by rfl, ?_⟩) ?_; rotate_left
      · (intro wS hSw; (try dsimp only at hSw); go_simp); all_goals with_reducible rfl
      try go_frame
      refine tks (oi := ⟨_, _, _, _, _, _⟩) (v := ?_) 17 rfl (.inl ⟨by rfl, ?_⟩) ?_; rotate_left
      · (intro wS hSw; (try dsimp only at hSw); go_simp); all_goals with_reducible rfl
      try go_frame
      refine tks (oi := ⟨_, _, _, _, _, _⟩) (v := ?_) 18 rfl (.inl ⟨by rfl, ?_⟩) ?_; rotate_left
      · (intro wS hSw; (try dsimp only at hSw); go_simp); all_goals with_reducible rfl
      try go_frame
      refine tks (oi := ⟨_, _, _, _, _, _⟩) (v := ?_) 19 rfl (.inl ⟨by rfl, ?_⟩) ?_; rotate_left
      · (intro wS hSw; (try dsimp only at hSw); go_simp); all_goals with_reducible rfl
      try go_frame
      refine tks (oi := ⟨_, _, _, _, _, _⟩) (v := ?_) 20 rfl (.inl ⟨by rfl, ?_⟩) ?_; rotate_left
      · (intro wS hSw; (try dsimp only at hSw); go_simp); all_goals with_reducible rfl
      try go_frame
      refine tks (oi := ⟨_, _, _, _, _, _⟩) (v := ?_) 21 rfl (.inl ⟨by rfl, ?_⟩) ?_; rotate_left
      · (intro wS hSw; (try dsimp only at hSw); go_simp); all_goals with_reducible rfl
      try go_frame
      refine tks (oi := ⟨_, _, _, _, _, _⟩) (v := ?_) 22 rfl (.inl ⟨by rfl, ?_⟩) ?_; rotate_left
      · (intro wS hSw; (try dsimp only at hSw); go_simp); all_goals with_reducible rfl
      try go_frame
      refine tks (oi := ⟨_, _, _, _, _, _⟩) (v := ?_) 23 rfl (.inl ⟨by rfl, ?_⟩) ?_; rotate_left
      · (intro wS hSw; (try dsimp only at hSw); go_simp); all_goals with_reducible rfl
      try go_frame
      refine tks (oi := ⟨_, _, _, _, _, _⟩) (v := ?_) 24 rfl (.inl ⟨by rfl, ?_⟩) ?_; rotate_left
      · (intro wS hSw; (try dsimp only at hSw); go_simp); all_goals with_reducible rfl
      try go_frame
      refine tks (oi := ⟨_, _, _, _, _, _⟩) (v := ?_) 25 rfl (.inl ⟨by rfl, ?_⟩) ?_; rotate_left
      · (intro wS hSw; (try dsimp only at hSw); go_simp); all_goals with_reducible rfl
      try go_frame
      refine tks (oi := ⟨_, _, _, _, _, _⟩) (v := ?_) 26 rfl (.inl ⟨by rfl, ?_⟩) ?_; rotate_left
      · (intro wS hSw; (try dsimp only at hSw); go_simp); all_goals with_reducible rfl
      try go_frame
      refine tks (oi := ⟨_, _, _, _, _, _⟩) (v := ?_) 27 rfl (.inl ⟨by rfl, ?_⟩) ?_; rotate_left
      · (intro wS hSw; (try dsimp only at hSw); go_simp); all_goals with_reducible rfl
      try go_frame
      refine tks (oi := ⟨_, _, _, _, _, _⟩) (v := ?_) 28 rfl (.inl ⟨by rfl, ?_⟩) ?_; rotate_left
      · (intro wS hSw; (try dsimp only at hSw); go_simp); all_goals with_reducible rfl
      try go_frame
      refine tks (oi := ⟨_, _, _, _, _, _⟩) (v := ?_) 29 rfl (.inl ⟨by rfl, ?_⟩) ?_; rotate_left
      · (intro wS hSw; (try dsimp only at hSw); go_simp); all_goals with_reducible rfl
      try go_frame
      refine tks (oi := ⟨_, _, _, _, _, _⟩) (v := ?_) 30 rfl (.inl ⟨by rfl, ?_⟩) ?_; rotate_left
      · (intro wS hSw; (try dsimp only at hSw); go_simp); all_goals with_reducible rfl
      try go_frame
      refine tks (oi := ⟨_, _, _, _, _, _⟩) (v := ?_) 31 rfl (.inl ⟨by rfl, ?_⟩) ?_; rotate_left
      · (intro wS hSw; (try dsimp only at hSw); go_simp); all_goals with_reducible rfl
      try go_frame
      refine tks (oi := ⟨_, _, _, _, _, _⟩) (v := ?_) 32 rfl (.inl ⟨by rfl, ?_⟩) ?_; rotate_left
      · (intro wS hSw; (try dsimp only at hSw); go_simp); all_goals with_reducible rfl
      try go_frame
      refine tks (oi := ⟨_, _, _, _, _, _⟩) (v := ?_) 33 rfl (.inl ⟨by rfl, ?_⟩) ?_; rotate_left
      · (intro wS hSw; (try dsimp only at hSw); go_simp); all_goals with_reducible rfl
      try go_frame
      refine tks (oi := ⟨_, _, _, _, _, _⟩) (v := ?_) 34 rfl (.inl ⟨by rfl, ?_⟩) ?_; rotate_left
      · (intro wS hSw; (try dsimp only at hSw); go_simp); all_goals with_reducible rfl
      try go_frame
      refine tks (oi := ⟨_, _, _, _, _, _⟩) (v := ?_) 35 rfl (.inl ⟨by rfl, ?_⟩) ?_; rotate_left
      · (intro wS hSw; (try dsimp only at hSw); go_simp); all_goals with_reducible rfl
      try go_frame
      refine tks (oi := ⟨_, _, _, _, _, _⟩) (v := ?_) 36 rfl (.inl ⟨by rfl, ?_⟩) ?_; rotate_left
      · (intro wS hSw; (try dsimp only at hSw); go_simp); all_goals with_reducible rfl
      try go_frame
      refine tks (oi := ⟨_, _, _, _, _, _⟩) (v := ?_) 37 rfl (.inl ⟨by rfl, ?_⟩) ?_; rotate_left
      · (intro wS hSw; (try dsimp only at hSw); go_simp); all_goals with_reducible rfl
      try go_frame
      refine tks (oi := ⟨_, _, _, _, _, _⟩) (v := ?_) 38 rfl (.inl ⟨by rfl, ?_⟩) ?_; rotate_left
      · (intro wS hSw; (try dsimp only at hSw); go_simp); all_goals with_reducible rfl
      try go_frame
      refine tks (oi := ⟨_, _, _, _, _, _⟩) (v := ?_) 39 rfl (.inl ⟨by rfl, ?_⟩) ?_; rotate_left
      · (intro wS hSw; (try dsimp only at hSw); go_simp); all_goals with_reducible rfl
      try go_frame
      refine wpAnyH_done (by kernel_rfl) ?_ _
      clear hW1 wk kn w1 t0 t1 t2 d1 d2 d3
      have hbD : Below W1.heap.size W1 W1.drew := (Below.refl _ W1).drew
      obtain ⟨e0, e1, e2, e3, e4⟩ := hcs.out _ hbD
      have hbD' := hbW.trans (hbD.mono (Nat.le_of_lt hzW))
      by_cases l40 : 40 ≤ x.level
      · have hv : Hid (42 = V) := by show _ = _; rw [← hv'.out, if_pos l40]
        clear hv'
        go_wp2_with fail
        go_ret
        exact ⟨by rw [← hv.out]; rfl, hbD'⟩
      by_cases k1000 : 1000 ≤ k
      · have hv : Hid (43 = V) := by show _ = _; rw [← hv'.out, if_neg l40, if_pos k1000]
        clear hv'
        have k1' : (1000 : Int) ≤ k := by omega
        go_wp2_with fail
        go_ret
        exact ⟨by rw [← hv.out]; rfl, hbD'⟩
      have hv : Hid (0 = V) := by show _ = _; rw [← hv'.out, if_neg l40, if_neg k1000]
      clear hv'
      have k1' : (k : Int) < 1000 := by omega
      have l40' : x.level < 40 := by omega
      go_wp2_with fail
      go_ret
      exact ⟨by rw [← hv.out]; rfl, hbD'⟩
  · skip
    have hpl : placeE (some p) k x = (if 40 ≤ x.level then (42 : Int) else if 1000 ≤ k then 43 else 0) := by unfold placeE; exact if_neg (by omega)
    have hv' : Hid ((if 40 ≤ x.level then (42 : Int) else if 1000 ≤ k then 43 else 0) = V) := by show _ = _; rw [← hV', hpl]
    clear hpl
    have d1 : decide (x.level < 1) = false := by simp; omega
    have w1 : IntKind.i64.wrap (p.level + 1) = p.level + 1 := IntWalk.i64_in _ (by omega)
    have d2 : decide (p.level + 1 < x.level) = false := by simp; omega
    have d3 : decide (p.level < x.level) = false := by simp; omega
    have wk : IntKind.i64.wrap ((k : Int) - 1) = (k : Int) - 1 := IntWalk.i64_in _ (by omega)
    have kn : ((k : Int) - 1).toNat = k - 1 := by omega
    clear hV'
    go_enter Try.func50, Try.ntmps50
    go_wp2_with fail
    rw [← hW1.out]
    refine wp_region_held_drew (S := fun w' => w'.cell? ⟨w.heap.size, 0, none⟩ = some (.int .i64 x.level) ∧ w'.cell? (ad.add ((k - 1) * 5)) = some (.int .i64 p.level) ∧ w'.cell? ⟨(ad.add ((k - 1) * 5)).block, (ad.add ((k - 1) * 5)).off + 1, none⟩ = some (.int .i64 p.kind)) (by kernel_rfl) hS.out (fun hHeld => ?_)
    refine tks (oi := ⟨_, _, _, _, _, _⟩) (v := ?_) 0 rfl (.inl ⟨by rfl, ?_⟩) ?_; rotate_left
    · (intro wS hSw; (try dsimp only at hSw); go_simp); all_goals with_reducible rfl
    try go_frame
    refine tks (oi := ⟨_, _, _, _, _, _⟩) (v := ?_) 1 rfl (.inl ⟨by rfl, ?_⟩) ?_; rotate_left
    · (intro wS hSw; (try dsimp only at hSw); go_simp); all_goals with_reducible rfl
    try go_frame
    refine tks (oi := ⟨_, _, _, _, _, _⟩) (v := ?_) 2 rfl (.inl ⟨by rfl, ?_⟩) ?_; rotate_left
    · (intro wS hSw; (try dsimp only at hSw); go_simp); all_goals with_reducible rfl
    try go_frame
    refine tks (oi := ⟨_, _, _, _, _, _⟩) (v := ?_) 3 rfl (.inl ⟨by rfl, ?_⟩) ?_; rotate_left
    · (intro wS hSw; (try dsimp only at hSw); go_simp); all_goals with_reducible rfl
    try go_frame
    refine tks (oi := ⟨_, _, _, _, _, _⟩) (v := ?_) 4 rfl (.inl ⟨by rfl, ?_⟩) ?_; rotate_left
    · (intro wS hSw; (try dsimp only at hSw); go_simp); all_goals with_reducible rfl
    try go_frame
    refine tks (oi := ⟨_, _, _, _, _, _⟩) (v := ?_) 5 rfl (.inl ⟨by rfl, ?_⟩) ?_; rotate_left
    · (intro wS hSw; (try dsimp only at hSw); go_simp); all_goals with_reducible rfl
    try go_frame
    refine tks (oi := ⟨_, _, _, _, _, _⟩) (v := ?_) 6 rfl (.inl ⟨by rfl, ?_⟩) ?_; rotate_left
    · (intro wS hSw; (try dsimp only at hSw); go_simp); all_goals with_reducible rfl
    try go_frame
    refine tks (oi := ⟨_, _, _, _, _, _⟩) (v := ?_) 7 rfl (.inl ⟨by rfl, ?_⟩) ?_; rotate_left
    · (intro wS hSw; (try dsimp only at hSw); go_simp); all_goals with_reducible rfl
    try go_frame
    refine tks (oi := ⟨_, _, _, _, _, _⟩) (v := ?_) 8 rfl (.inl ⟨by rfl, ?_⟩) ?_; rotate_left
    · (intro wS hSw; (try dsimp only at hSw); go_simp); all_goals with_reducible rfl
    try go_frame
    refine tks (oi := ⟨_, _, _, _, _, _⟩) (v := ?_) 9 rfl (.inl ⟨by rfl, ?_⟩) ?_; rotate_left
    · (intro wS hSw; (try dsimp only at hSw); go_simp); all_goals with_reducible rfl
    try go_frame
    refine tks (oi := ⟨_, _, _, _, _, _⟩) (v := ?_) 10 rfl (.inl ⟨by rfl, ?_⟩) ?_; rotate_left
    · (intro wS hSw; (try dsimp only at hSw); go_simp); all_goals with_reducible rfl
    try go_frame
    refine tks (oi := ⟨_, _, _, _, _, _⟩) (v := ?_) 11 rfl (.inl ⟨by rfl, ?_⟩) ?_; rotate_left
    · (intro wS hSw; (try dsimp only at hSw); go_simp); all_goals with_reducible rfl
    try go_frame
    refine tks (oi := ⟨_, _, _, _, _, _⟩) (v := ?_) 12 rfl (.inl ⟨by rfl, ?_⟩) ?_; rotate_left
    · (intro wS hSw; (try dsimp only at hSw); go_simp); all_goals with_reducible rfl
    try go_frame
    refine tks (oi := ⟨_, _, _, _, _, _⟩) (v := ?_) 13 rfl (.inl ⟨by rfl, ?_⟩) ?_; rotate_left
    · (intro wS hSw; (try dsimp only at hSw); go_simp); all_goals with_reducible rfl
    try go_frame
    refine tks (oi := ⟨_, _, _, _, _, _⟩) (v := ?_) 14 rfl (.inl ⟨by rfl, ?_⟩) ?_; rotate_left
    · (intro wS hSw; (try dsimp only at hSw); go_simp); all_goals with_reducible rfl
    try go_frame
    refine tks (oi := ⟨_, _, _, _, _, _⟩) (v := ?_) 15 rfl (.inl ⟨by rfl, ?_⟩) ?_; rotate_left
    · (intro wS hSw; (try dsimp only at hSw); go_simp); all_goals with_reducible rfl
    try go_frame
    refine tks (oi := ⟨_, _, _, _, _, _⟩) (v := ?_) 16 rfl (.inl ⟨by rfl, ?_⟩) ?_; rotate_left
    · (intro wS hSw; (try dsimp only at hSw); go_simp); all_goals with_reducible rfl
    try go_frame
    refine tks (oi := ⟨_, _, _, _, _, _⟩) (v := ?_) 17 rfl (.inl ⟨by rfl, ?_⟩) ?_; rotate_left
    · (intro wS hSw; (try dsimp only at hSw); go_simp); all_goals with_reducible rfl
    try go_frame
    refine tks (oi := ⟨_, _, _, _, _, _⟩) (v := ?_) 18 rfl (.inl ⟨by rfl, ?_⟩) ?_; rotate_left
    · (intro wS hSw; (try dsimp only at hSw); go_simp); all_goals with_reducible rfl
    try go_frame
    refine tks (oi := ⟨_, _, _, _, _, _⟩) (v := ?_) 19 rfl (.inl ⟨by rfl, ?_⟩) ?_; rotate_left
    · (intro wS hSw; (try dsimp only at hSw); go_simp); all_goals with_reducible rfl
    try go_frame
    refine tks (oi := ⟨_, _, _, _, _, _⟩) (v := ?_) 20 rfl (.inl ⟨by rfl, ?_⟩) ?_; rotate_left
    · (intro wS hSw; (try dsimp only at hSw); go_simp); all_goals with_reducible rfl
    try go_frame
    refine tks (oi := ⟨_, _, _, _, _, _⟩) (v := ?_) 21 rfl (.inl ⟨by rfl, ?_⟩) ?_; rotate_left
    · (intro wS hSw; (try dsimp only at hSw); go_simp); all_goals with_reducible rfl
    try go_frame
    refine tks (oi := ⟨_, _, _, _, _, _⟩) (v := ?_) 22 rfl (.inl ⟨by rfl, ?_⟩) ?_; rotate_left
    · (intro wS hSw; (try dsimp only at hSw); go_simp); all_goals with_reducible rfl
    try go_frame
    refine tks (oi := ⟨_, _, _, _, _, _⟩) (v := ?_) 23 rfl (.inl ⟨by rfl, ?_⟩) ?_; rotate_left
    · (intro wS hSw; (try dsimp only at hSw); go_simp); all_goals with_reducible rfl
    try go_frame
    refine tks (oi := ⟨_, _, _, _, _, _⟩) (v := ?_) 24 rfl (.inl ⟨by rfl, ?_⟩) ?_; rotate_left
    · (intro wS hSw; (try dsimp only at hSw); go_simp); all_goals with_reducible rfl
    try go_frame
    refine tks (oi := ⟨_, _, _, _, _, _⟩) (v := ?_) 25 rfl (.inl ⟨by rfl, ?_⟩) ?_; rotate_left
    · (intro wS hSw; (try dsimp only at hSw); go_simp); all_goals with_reducible rfl
    try go_frame
    refine tks (oi := ⟨_, _, _, _, _, _⟩) (v := ?_) 26 rfl (.inl ⟨by rfl, ?_⟩) ?_; rotate_left
    · (intro wS hSw; (try dsimp only at hSw); go_simp); all_goals with_reducible rfl
    try go_frame
    refine tks (oi := ⟨_, _, _, _, _, _⟩) (v := ?_) 27 rfl (.inl ⟨by rfl, ?_⟩) ?_; rotate_left
    · (intro wS hSw; (try dsimp only at hSw); go_simp); all_goals with_reducible rfl
    try go_frame
    refine tks (oi := ⟨_, _, _, _, _, _⟩) (v := ?_) 28 rfl (.inl ⟨by rfl, ?_⟩) ?_; rotate_left
    · (intro wS hSw; (try dsimp only at hSw); go_simp); all_goals with_reducible rfl
    try go_frame
    refine tks (oi := ⟨_, _, _, _, _, _⟩) (v := undef) 29 rfl (.inr ⟨by rfl, rfl⟩) ?_
    try go_frame
    refine tks (oi := ⟨_, _, _, _, _, _⟩) (v := undef) 30 rfl (.inr ⟨by rfl, rfl⟩) ?_
    try go_frame
    refine tks (oi := ⟨_, _, _, _, _, _⟩) (v := undef) 31 rfl (.inr ⟨by rfl, rfl⟩) ?_
    try go_frame
    refine tks (oi := ⟨_, _, _, _, _, _⟩) (v := undef) 32 rfl (.inr ⟨by rfl, rfl⟩) ?_
    try go_frame
    refine tks (oi := ⟨_, _, _, _, _, _⟩) (v := undef) 33 rfl (.inr ⟨by rfl, rfl⟩) ?_
    try go_frame
    refine tks (oi := ⟨_, _, _, _, _, _⟩) (v := undef) 34 rfl (.inr ⟨by rfl, rfl⟩) ?_
    try go_frame
    refine tks (oi := ⟨_, _, _, _, _, _⟩) (v := undef) 35 rfl (.inr ⟨by rfl, rfl⟩) ?_
    try go_frame
    refine tks (oi := ⟨_, _, _, _, _, _⟩) (v := ?_) 36 rfl (.inl ⟨by rfl, ?_⟩) ?_; rotate_left
    · (intro wS hSw; (try dsimp only at hSw); go_simp); all_goals with_reducible rfl
    try go_frame
    refine tks (oi := ⟨_, _, _, _, _, _⟩) (v := ?_) 37 rfl (.inl ⟨by rfl, ?_⟩) ?_; rotate_left
    · (intro wS hSw; (try dsimp only at hSw); go_simp); all_goals with_reducible rfl
    try go_frame
    refine tks (oi := ⟨_, _, _, _, _, _⟩) (v := ?_) 38 rfl (.inl ⟨by rfl, ?_⟩) ?_; rotate_left
    · (intro wS hSw; (try dsimp only at hSw); go_simp); all_goals with_reducible rfl
    try go_frame
    refine tks (oi := ⟨_, _, _, _, _, _⟩) (v := ?_) 39 rfl (.inl ⟨by rfl, ?_⟩) ?_; rotate_left
    · (intro wS hSw; (try dsimp only at hSw); go_simp); all_goals with_reducible rfl
    try go_frame
    refine wpAnyH_done (by kernel_rfl) ?_ _
    clear hW1 wk kn w1 t0 t1 t2 d1 d2 d3
    have hbD : Below W1.heap.size W1 W1.drew := (Below.refl _ W1).drew
    obtain ⟨e0, e1, e2, e3, e4⟩ := hcs.out _ hbD
    have hbD' := hbW.trans (hbD.mono (Nat.le_of_lt hzW))
    by_cases l40 : 40 ≤ x.level
    · have hv : Hid (42 = V) := by show _ = _; rw [← hv'.out, if_pos l40]
      clear hv'
      go_wp2_with fail
      go_ret
      exact ⟨by rw [← hv.out]; rfl, hbD'⟩
    by_cases k1000 : 1000 ≤ k
    · have hv : Hid (43 = V) := by show _ = _; rw [← hv'.out, if_neg l40, if_pos k1000]
      clear hv'
      have k1' : (1000 : Int) ≤ k := by omega
      go_wp2_with fail
      go_ret
      exact ⟨by rw [← hv.out]; rfl, hbD'⟩
    have hv : Hid (0 = V) := by show _ = _; rw [← hv'.out, if_neg l40, if_neg k1000]
    clear hv'
    have k1' : (k : Int) < 1000 := by omega
    have l40' : x.level < 40 := by omega
    go_wp2_with fail
    go_ret
    exact ⟨by rw [← hv.out]; rfl, hbD'⟩
end Go.Proofs.Ythifddkmbjnncaa

/-
  The walk of parse.End.
-/
namespace Go.Proofs.Ythifddkmbjnncaa
open Go.RowKit

/-- the numbers behind an item, one by one -/
theorem kids_step (c : Int) (l : List ItemD) (n : Nat) (y : ItemD) (hy : l[n]? = some y) : (kidsOf c (l.drop n)).length = if c < y.level then 1 + (kidsOf c (l.drop (n + 1))).length else 0 := by
  rw [drop_cons hy]
  show (List.takeWhile _ (y :: _)).length = _
  rw [List.takeWhile_cons]
  by_cases h : c < y.level
  · rw [if_pos h, if_pos (by simpa using h), List.length_cons]; unfold kidsOf; omega
  · rw [if_neg h, if_neg (by simpa using h)]; rfl

def endL (l : List ItemD) (k : Int) : Int := if k < 0 ∨ l.length ≤ k then 0 else (endN l k.toNat : Nat)

set_option maxRecDepth 100000 in
set_option maxHeartbeats 2000000 in
theorem End_in (l : List ItemD) (ad : Addr) (c k : Nat) (x : ItemD) (w : World) (hA : ItemsAt w w.heap.size (some ad) l) (hx : l[k]? = some x) (hl : l.length ≤ 1000000000) (E : Nat) (hE : Hid (endN l k = E)) :
    Calls Try.prog 27 #[.slice (some ad) l.length c, .int .i64 k] w (Ret w (.int .i64 E)) := by
  have hk : k < l.length := (List.getElem?_eq_some_iff.1 hx).1
  have HA := Lib.hid hA
  obtain ⟨hb, _, _, _, _, hx0, _⟩ := hA.item hx
  have hE0 : Hid (k + 1 + (kidsOf x.level (l.drop (k + 1))).length = E) := by
    show _ = _
    rw [← hE.out]
    unfold endN
    rw [drop_cons hx]
  clear hA hx hE
  have i0 : (0 : Int) ≤ (k : Int) := by omega
  have i1 : (k : Int) < l.length := by omega
  have t0 : decide ((k : Int) < 0) = false := by simp
  have t1 : decide ((l.length : Int) ≤ k) = false := by simp; omega
  have t2 : decide (l.length ≤ k) = false := by simp; omega
  have HX0 := Lib.hid hx0
  clear hx0
  go_enter Try.func27, Try.ntmps27
  go_wp2_with fail
  clear t0 t1 t2
  go_loopw [5] (fun i wr => ∃ (n : Nat), k + 1 ≤ n ∧ n ≤ l.length ∧ i = .int .i64 n ∧ Hid (n + (kidsOf x.level (l.drop n)).length = E) ∧ Below w.heap.size w wr) (fun i _ => l.length - (intOf i).toNat)
  case atStart => exact ⟨k + 1, Nat.le_refl _, hk, by go_num, hE0, Below.refl _ _⟩
  case round =>
    obtain ⟨n, hkn, hnl, rfl, hin, hbel⟩ := hrel
    have hx0 : wr.drew.cell? (ad.add (k * 5)) = some (.int .i64 x.level) := (hbel.drew.cell (by rw [block_of_add]; exact hb)).trans HX0.out
    have j0 : (0 : Int) ≤ (n : Int) := by omega
    by_cases hlt : n < l.length
    · obtain ⟨y, hy⟩ : ∃ y, Hid (l[n]? = some y) := ⟨l[n], List.getElem?_eq_getElem _⟩
      obtain ⟨_, _, _, _, _, hy0, _⟩ := HA.out.item hy.out
      have hy0' : wr.drew.cell? (ad.add (n * 5)) = some (.int .i64 y.level) := (hbel.drew.cell (by rw [block_of_add]; exact hb)).trans hy0
      have hstep := kids_step x.level l n y hy.out
      have hin' := hin.out
      rw [hstep] at hin'
      have j1 : (n : Int) < l.length := by omega
      have HS : Hid (wr.drew.cell? (ad.add (k * 5)) = some (.int .i64 x.level) ∧ wr.drew.cell? (ad.add (n * 5)) = some (.int .i64 y.level)) := ⟨hx0, hy0'⟩
      clear hx0 hy0 hy0' hstep hin
      have t3 : decide ((n : Int) < l.length) = true := by simp; omega
      have t4 : decide (n < l.length) = true := by simp; omega
      by_cases hc : x.level < y.level
      · rw [if_pos hc] at hin'
        have HIN : Hid (n + 1 + (kidsOf x.level (l.drop (n + 1))).length = E) := by show _ = _; rw [← hin']; omega
        have d1 : decide (x.level < y.level) = true := by simpa using hc
        clear hin' hc
        go_wp2_with fail
        refine wp_region_held_drew (S := fun w' => w'.cell? (ad.add (k * 5)) = some (.int .i64 x.level) ∧ w'.cell? (ad.add (n * 5)) = some (.int .i64 y.level)) (by kernel_rfl) HS.out (fun hHeld => ?_)
        refine tks (oi := ⟨_, _, _, _, _, _⟩) (v := ?_) 0 rfl (.inl ⟨by rfl, ?_⟩) ?_; rotate_left
        · (intro wS hSw; (try dsimp only at hSw); go_simp); all_goals with_reducible rfl
        try go_frame
        refine tks (oi := ⟨_, _, _, _, _, _⟩) (v := ?_) 1 rfl (.inl ⟨by rfl, ?_⟩) ?_; rotate_left
        · (intro wS hSw; (try dsimp only at hSw); go_simp); all_goals with_reducible rfl
        try go_frame
        refine tks (oi := ⟨_, _, _, _, _, _⟩) (v := ?_) 2 rfl (.inl ⟨by rfl, ?_⟩) ?_; rotate_left
        · (intro wS hSw; (try dsimp only at hSw); go_simp); all_goals with_reducible rfl
        try go_frame
        refine tks (oi := ⟨_, _, _, _, _, _⟩) (v := ?_) 3 rfl (.inl ⟨by rfl, ?_⟩) ?_; rotate_left
        · (intro wS hSw; (try dsimp only at hSw); go_simp); all_goals with_reducible rfl
        try go_frame
        refine tks (oi := ⟨_, _, _, _, _, _⟩) (v := ?_) 4 rfl (.inl ⟨by rfl, ?_⟩) ?_; rotate_left
        · (intro wS hSw; (try dsimp only at hSw); go_simp); all_goals with_reducible rfl
        try go_frame
        refine tks (oi := ⟨_, _, _, _, _, _⟩) (v := ?_) 5 rfl (.inl ⟨by rfl, ?_⟩) ?_; rotate_left
        · (intro wS hSw; (try dsimp only at hSw); go_simp); all_goals with_reducible rfl
        try go_frame
        refine tks (oi := ⟨_, _, _, _, _, _⟩) (v := ?_) 6 rfl (.inl ⟨by rfl, ?_⟩) ?_; rotate_left
        · (intro wS hSw; (try dsimp only at hSw); go_simp); all_goals with_reducible rfl
        try go_frame
        refine tks (oi := ⟨_, _, _, _, _, _⟩) (v := ?_) 7 rfl (.inl ⟨by rfl, ?_⟩) ?_; rotate_left
        · (intro wS hSw; (try dsimp only at hSw); go_simp); all_goals with_reducible rfl
        try go_frame
        refine tks (oi := ⟨_, _, _, _, _, _⟩) (v := ?_) 8 rfl (.inl ⟨by rfl, ?_⟩) ?_; rotate_left
        · (intro wS hSw; (try dsimp only at hSw); go_simp); all_goals with_reducible rfl
        try go_frame
        refine tks (oi := ⟨_, _, _, _, _, _⟩) (v := ?_) 9 rfl (.inl ⟨by rfl, ?_⟩) ?_; rotate_left
        · (intro wS hSw; (try dsimp only at hSw); go_simp); all_goals with_reducible rfl
        try go_frame
        refine tks (oi := ⟨_, _, _, _, _, _⟩) (v := ?_) 10 rfl (.inl ⟨by rfl, ?_⟩) ?_; rotate_left
        · (intro wS hSw; (try dsimp only at hSw); go_simp); all_goals with_reducible rfl
        try go_frame
        refine tks (oi := ⟨_, _, _, _, _, _⟩) (v := ?_) 11 rfl (.inl ⟨by rfl, ?_⟩) ?_; rotate_left
        · (intro wS hSw; (try dsimp only at hSw); go_simp); all_goals with_reducible rfl
        try go_frame
        refine tks (oi := ⟨_, _, _, _, _, _⟩) (v := ?_) 12 rfl (.inl ⟨by rfl, ?_⟩) ?_; rotate_left
        · (intro wS hSw; (try dsimp only at hSw); go_simp); all_goals with_reducible rfl
        try go_frame
        refine tks (oi := ⟨_, _, _, _, _, _⟩) (v := ?_) 13 rfl (.inl ⟨by rfl, ?_⟩) ?_; rotate_left
        · (intro wS hSw; (try dsimp only at hSw); go_simp); all_goals with_reducible rfl
        try go_frame
        refine tks (oi := ⟨_, _, _, _, _, _⟩) (v := ?_) 14 rfl (.inl ⟨by rfl, ?_⟩) ?_; rotate_left
        · (intro wS hSw; (try dsimp only at hSw); go_simp); all_goals with_reducible rfl
        try go_frame
        refine tks (oi := ⟨_, _, _, _, _, _⟩) (v := ?_) 15 rfl (.inl ⟨by rfl, ?_⟩) ?_; rotate_left
        · (intro wS hSw; (try dsimp only at hSw); go_simp); all_goals with_reducible rfl
        try go_frame
        refine tks (oi := ⟨_, _, _, _, _, _⟩) (v := ?_) 16 rfl (.inl ⟨by rfl, ?_⟩) ?_; rotate_left
        · (intro wS hSw; (try dsimp only at hSw); go_simp); all_goals with_reducible rfl
        try go_frame
        refine wpAnyH_done (by kernel_rfl) ?_ _
        clear hHeld t3 t4 d1
        go_wp2_with fail
        go_roundw
        case rel => exact ⟨n + 1, by omega, by omega, by go_num, HIN, hbel.drew⟩
        case measure => simp [intOf]; omega
      · rw [if_neg hc] at hin'
        have HIN : Hid (n = E) := by show _ = _; rw [← hin']; rfl
        have d1 : decide (x.level < y.level) = false := by simpa using hc
        clear hin' hc
        go_wp2_with fail
        refine wp_region_held_drew (S := fun w' => w'.cell? (ad.add (k * 5)) = some (.int .i64 x.level) ∧ w'.cell? (ad.add (n * 5)) = some (.int .i64 y.level)) (by kernel_rfl) HS.out (fun hHeld => ?_)
        refine tks (oi := ⟨_, _, _, _, _, _⟩) (v := ?_) 0 rfl (.inl ⟨by rfl, ?_⟩) ?_; rotate_left
        · (intro wS hSw; (try dsimp only at hSw); go_simp); all_goals with_reducible rfl
        try go_frame
        refine tks (oi := ⟨_, _, _, _, _, _⟩) (v := ?_) 1 rfl (.inl ⟨by rfl, ?_⟩) ?_; rotate_left
        · (intro wS hSw; (try dsimp only at hSw); go_simp); all_goals with_reducible rfl
        try go_frame
        refine tks (oi := ⟨_, _, _, _, _, _⟩) (v := ?_) 2 rfl (.inl ⟨by rfl, ?_⟩) ?_; rotate_left
        · (intro wS hSw; (try dsimp only at hSw); go_simp); all_goals with_reducible rfl
        try go_frame
        refine tks (oi := ⟨_, _, _, _, _, _⟩) (v := ?_) 3 rfl (.inl ⟨by rfl, ?_⟩) ?_; rotate_left
        · (intro wS hSw; (try dsimp only at hSw); go_simp); all_goals with_reducible rfl
        try go_frame
        refine tks (oi := ⟨_, _, _, _, _, _⟩) (v := ?_) 4 rfl (.inl ⟨by rfl, ?_⟩) ?_; rotate_left
        · (intro wS hSw; (try dsimp only at hSw); go_simp); all_goals with_reducible rfl
        try go_frame
        refine tks (oi := ⟨_, _, _, _, _, _⟩) (v := ?_) 5 rfl (.inl ⟨by rfl, ?_⟩) ?_; rotate_left
        · (intro wS hSw; (try dsimp only at hSw); go_simp); all_goals with_reducible rfl
        try go_frame
        refine tks (oi := ⟨_, _, _, _, _, _⟩) (v := ?_) 6 rfl (.inl ⟨by rfl, ?_⟩) ?_; rotate_left
        · (intro wS hSw; (try dsimp only at hSw); go_simp); all_goals with_reducible rfl
        try go_frame
        refine tks (oi := ⟨_, _, _, _, _, _⟩) (v := ?_) 7 rfl (.inl ⟨by rfl, ?_⟩) ?_; rotate_left
        · (intro wS hSw; (try dsimp only at hSw); go_simp); all_goals with_reducible rfl
        try go_frame
        refine tks (oi := ⟨_, _, _, _, _, _⟩) (v := ?_) 8 rfl (.inl ⟨by rfl, ?_⟩) ?_; rotate_left
        · (intro wS hSw; (try dsimp only at hSw); go_simp); all_goals with_reducible rfl
        try go_frame
        refine tks (oi := ⟨_, _, _, _, _, _⟩) (v := ?_) 9 rfl (.inl ⟨by rfl, ?_⟩) ?_; rotate_left
        · (intro wS hSw; (try dsimp only at hSw); go_simp); all_goals with_reducible rfl
        try go_frame
        refine tks (oi := ⟨_, _, _, _, _, _⟩) (v := ?_) 10 rfl (.inl ⟨by rfl, ?_⟩) ?_; rotate_left
        · (intro wS hSw; (try dsimp only at hSw); go_simp); all_goals with_reducible rfl
        try go_frame
        refine tks (oi := ⟨_, _, _, _, _, _⟩) (v := ?_) 11 rfl (.inl ⟨by rfl, ?_⟩) ?_; rotate_left
        · (intro wS hSw; (try dsimp only at hSw); go_simp); all_goals with_reducible rfl
        try go_frame
        refine tks (oi := ⟨_, _, _, _, _, _⟩) (v := ?_) 12 rfl (.inl ⟨by rfl, ?_⟩) ?_; rotate_left
        · (intro wS hSw; (try dsimp only at hSw); go_simp); all_goals with_reducible rfl
        try go_frame
        refine tks (oi := ⟨_, _, _, _, _, _⟩) (v := ?_) 13 rfl (.inl ⟨by rfl, ?_⟩) ?_; rotate_left
        · (intro wS hSw; (try dsimp only at hSw); go_simp); all_goals with_reducible rfl
        try go_frame
        refine tks (oi := ⟨_, _, _, _, _, _⟩) (v := ?_) 14 rfl (.inl ⟨by rfl, ?_⟩) ?_; rotate_left
        · (intro wS hSw; (try dsimp only at hSw); go_simp); all_goals with_reducible rfl
        try go_frame
        refine tks (oi := ⟨_, _, _, _, _, _⟩) (v := ?_) 15 rfl (.inl ⟨by rfl, ?_⟩) ?_; rotate_left
        · (intro wS hSw; (try dsimp only at hSw); go_simp); all_goals with_reducible rfl
        try go_frame
        refine tks (oi := ⟨_, _, _, _, _, _⟩) (v := ?_) 16 rfl (.inl ⟨by rfl, ?_⟩) ?_; rotate_left
        · (intro wS hSw; (try dsimp only at hSw); go_simp); all_goals with_reducible rfl
        try go_frame
        refine wpAnyH_done (by kernel_rfl) ?_ _
        clear hHeld t3 t4 d1
        go_wp2_with fail
        go_ret
        exact ⟨by rw [← HIN.out]; rfl, hbel.drew⟩
    · have HIN : Hid (n = E) := by
        show _ = _
        rw [← hin.out, List.drop_eq_nil_of_le (by omega)]; rfl
      have t3 : decide ((n : Int) < l.length) = false := by simp; omega
      have t4 : decide (n < l.length) = false := by simp; omega
      clear hin hx0
      go_wp2_with fail
      refine wp_region_held_drew (S := fun _ => True) (by kernel_rfl) trivial (fun hHeld => ?_)
      refine tks (oi := ⟨_, _, _, _, _, _⟩) (v := ?_) 0 rfl (.inl ⟨by rfl, ?_⟩) ?_; rotate_left
      · (intro wS hSw; (try dsimp only at hSw); go_simp); all_goals with_reducible rfl
      try go_frame
      refine tks (oi := ⟨_, _, _, _, _, _⟩) (v := ?_) 1 rfl (.inl ⟨by rfl, ?_⟩) ?_; rotate_left
      · (intro wS hSw; (try dsimp only at hSw); go_simp); all_goals with_reducible rfl
      try go_frame
      refine tks (oi := ⟨_, _, _, _, _, _⟩) (v := ?_) 2 rfl (.inl ⟨by rfl, ?_⟩) ?_; rotate_left
      · (intro wS hSw; (try dsimp only at hSw); go_simp); all_goals with_reducible rfl
      try go_frame
      refine tks (oi := ⟨_, _, _, _, _, _⟩) (v := ?_) 3 rfl (.inl ⟨by rfl, ?_⟩) ?_; rotate_left
      · (intro wS hSw; (try dsimp only at hSw); go_simp); all_goals with_reducible rfl
      try go_frame
      refine tks (oi := ⟨_, _, _, _, _, _⟩) (v := ?_) 4 rfl (.inl ⟨by rfl, ?_⟩) ?_; rotate_left
      · (intro wS hSw; (try dsimp only at hSw); go_simp); all_goals with_reducible rfl
      try go_frame
      refine tks (oi := ⟨_, _, _, _, _, _⟩) (v := undef) 5 rfl (.inr ⟨by rfl, rfl⟩) ?_
      try go_frame
      refine tks (oi := ⟨_, _, _, _, _, _⟩) (v := undef) 6 rfl (.inr ⟨by rfl, rfl⟩) ?_
      try go_frame
      refine tks (oi := ⟨_, _, _, _, _, _⟩) (v := undef) 7 rfl (.inr ⟨by rfl, rfl⟩) ?_
      try go_frame
      refine tks (oi := ⟨_, _, _, _, _, _⟩) (v := undef) 8 rfl (.inr ⟨by rfl, rfl⟩) ?_
      try go_frame
      refine tks (oi := ⟨_, _, _, _, _, _⟩) (v := undef) 9 rfl (.inr ⟨by rfl, rfl⟩) ?_
      try go_frame
      refine tks (oi := ⟨_, _, _, _, _, _⟩) (v := undef) 10 rfl (.inr ⟨by rfl, rfl⟩) ?_
      try go_frame
      refine tks (oi := ⟨_, _, _, _, _, _⟩) (v := undef) 11 rfl (.inr ⟨by rfl, rfl⟩) ?_
      try go_frame
      refine tks (oi := ⟨_, _, _, _, _, _⟩) (v := undef) 12 rfl (.inr ⟨by rfl, rfl⟩) ?_
      try go_frame
      refine tks (oi := ⟨_, _, _, _, _, _⟩) (v := undef) 13 rfl (.inr ⟨by rfl, rfl⟩) ?_
      try go_frame
      refine tks (oi := ⟨_, _, _, _, _, _⟩) (v := undef) 14 rfl (.inr ⟨by rfl, rfl⟩) ?_
      try go_frame
      refine tks (oi := ⟨_, _, _, _, _, _⟩) (v := undef) 15 rfl (.inr ⟨by rfl, rfl⟩) ?_
      try go_frame
      refine tks (oi := ⟨_, _, _, _, _, _⟩) (v := ?_) 16 rfl (.inl ⟨by rfl, ?_⟩) ?_; rotate_left
      · (intro wS hSw; (try dsimp only at hSw); go_simp); all_goals with_reducible rfl
      try go_frame
      refine wpAnyH_done (by kernel_rfl) ?_ _
      clear hHeld t3 t4
      go_wp2_with fail
      go_ret
      exact ⟨by rw [← HIN.out]; rfl, hbel.drew⟩
end Go.Proofs.Ythifddkmbjnncaa

/-
  Rows of structs of a call's own: their cells, one more element at the end, one cell written.
-/
namespace Go.Proofs.Ythifddkmbjnncaa
open Go.RowKit

/-! Rows laid out flat. -/
theorem flat_length {α β : Type} (f : α → List β) (n : Nat) (hf : ∀ a, (f a).length = n) : ∀ l : List α, (l.flatMap f).length = l.length * n
  | [] => by simp
  | a :: l => by rw [List.flatMap_cons, List.length_append, hf, flat_length f n hf l, List.length_cons, Nat.add_mul]; omega
theorem flat_get {α β : Type} (f : α → List β) (n : Nat) (hf : ∀ a, (f a).length = n) : ∀ (l : List α) (k j : Nat) (a : α), l[k]? = some a → j < n → (l.flatMap f)[k * n + j]? = (f a)[j]?
  | [], k, j, a, h, _ => by simp at h
  | b :: l, 0, j, a, h, hj => by
    simp at h; subst h
    rw [List.flatMap_cons, List.getElem?_append_left (by rw [hf]; omega)]
    simp
  | b :: l, k + 1, j, a, h, hj => by
    rw [List.flatMap_cons, List.getElem?_append_right (by rw [hf, Nat.add_mul]; omega)]
    have e : (k + 1) * n + j - (f b).length = k * n + j := by rw [hf, Nat.add_mul]; omega
    rw [e]
    exact flat_get f n hf l k j a (by simpa using h) hj
theorem flat_set {α β : Type} (f : α → List β) (n : Nat) (hf : ∀ a, (f a).length = n) (l : List α) (k j : Nat) (a a' : α) (v : β) (h : l[k]? = some a) (hj : j < n) (hs : f a' = (f a).set j v) :
    (l.flatMap f).set (k * n + j) v = (l.set k a').flatMap f := by
  apply List.ext_getElem?
  intro i
  rw [List.getElem?_set]
  have hk : k < l.length := (List.getElem?_eq_some_iff.1 h).1
  have hlen := flat_length f n hf l
  have hlen' := flat_length f n hf (l.set k a')
  rw [List.length_set] at hlen'
  by_cases hi : i < l.length * n
  · have hn : 0 < n := by omega
    obtain ⟨q, r, hr, rfl⟩ : ∃ q r, r < n ∧ i = q * n + r := ⟨i / n, i % n, Nat.mod_lt _ hn, by rw [Nat.mul_comm]; exact (Nat.div_add_mod i n).symm⟩
    have hq : q < l.length := by
      rcases Nat.lt_or_ge q l.length with h | h
      · exact h
      · have := Nat.mul_le_mul_right n h; omega
    by_cases hqk : q = k
    · subst hqk
      have e1 : (l.set q a')[q]? = some a' := by rw [List.getElem?_set]; simp [hq]
      rw [flat_get f n hf _ q r a' e1 hr, flat_get f n hf l q r a h hr, hs, List.getElem?_set]
      by_cases hrj : j = r
      · subst hrj
        rw [if_pos rfl, if_pos rfl, hf, if_pos hj, hlen]
        rw [if_pos hi]
      · rw [if_neg (by omega), if_neg hrj]
    · have e1 : (l.set k a')[q]? = l[q]? := by rw [List.getElem?_set]; rw [if_neg (Ne.symm hqk)]
      have e2 : l[q]? = some l[q] := List.getElem?_eq_getElem hq
      rw [flat_get f n hf _ q r _ (e1.trans e2) hr, flat_get f n hf l q r _ e2 hr]
      rw [if_neg]
      intro he
      rcases Nat.lt_or_ge q k with hlt | hge
      · have := Nat.mul_le_mul_right n (show q + 1 ≤ k by omega)
        rw [Nat.add_mul] at this; omega
      · have := Nat.mul_le_mul_right n (show k + 1 ≤ q by omega)
        rw [Nat.add_mul] at this; omega
  · have r1 : ((l.set k a').flatMap f)[i]? = none := List.getElem?_eq_none (by rw [hlen']; omega)
    have r2 : (l.flatMap f)[i]? = none := List.getElem?_eq_none (by rw [hlen]; omega)
    rw [r1, r2]
    by_cases he : k * n + j = i
    · rw [if_pos he, if_neg (by rw [hlen]; omega)]
    · rw [if_neg he]

/-! What an owned row reads as. -/
theorem own_flat {α : Type} {w : World} {B : Nat} {e : TypeId} {n : Nat} {ad : Option Addr} {c : Nat} {l : List α} (f : α → List Value) (hf : ∀ a, (f a).length = n) (h : w.ownsRow B e n (.slice ad l.length c) l.length (l.flatMap f)) :
    0 < l.length → ∃ g, ad = some ⟨g, 0, none⟩ ∧ B ≤ g ∧ g < w.heap.size ∧ (∃ cur, w.heap[g]? = some (.cells cur e (0, 0))) ∧ ∀ k a j u, l[k]? = some a → (f a)[j]? = some u → w.cell? ((⟨g, 0, none⟩ : Addr).add (k * n + j)) = some u := by
  intro hl
  rcases h.2 with ⟨_, h0⟩ | ⟨g, cap, cur, hv, hb, hc, _⟩
  · omega
  · injection hv with hv h2 h3
    subst hv
    refine ⟨g, rfl, hb, (Array.getElem?_eq_some_iff.1 hc).1, ⟨cur, hc⟩, fun k a j u hk hu => ?_⟩
    have hj : j < n := by rw [← hf a]; exact (List.getElem?_eq_some_iff.1 hu).1
    refine h.cells (g := g) rfl _ u ?_
    rw [flat_get f n hf l k j a hk hj]; exact hu

/-- The block that a row of the call's own stands in is of the row's own type. -/
theorem own_type {w : World} {B : Nat} {e : TypeId} {size : Nat} {v : Value} {n : Nat} {xs : List Value} (h : w.ownsRow B e size v n xs) : ∀ g, v.ownBlock = some g → B ≤ g ∧ g < w.heap.size ∧ ∃ cur, w.heap[g]? = some (.cells cur e (0, 0)) := by
  intro g hg
  rcases h.2 with ⟨rfl, _⟩ | ⟨g', cap, cur, rfl, hb, hc, _⟩
  · cases hg
  · injection hg with hg
    have hg : g' = g := hg
    subst hg
    exact ⟨hb, (Array.getElem?_eq_some_iff.1 hc).1, cur, hc⟩

/-- Rows of two types never share a block. -/
theorem own_apart {w : World} {B B' : Nat} {e e' : TypeId} {size size' : Nat} {v v' : Value} {n n' : Nat} {xs xs' : List Value} (h : w.ownsRow B e size v n xs) (h' : w.ownsRow B' e' size' v' n' xs') (he : e ≠ e') : v.ownBlock = none ∨ v.ownBlock ≠ v'.ownBlock := by
  cases hv : v.ownBlock with
  | none => exact .inl rfl
  | some g =>
    refine .inr fun hg => ?_
    obtain ⟨_, _, cur, hc⟩ := own_type h g hv
    obtain ⟨_, _, cur', hc'⟩ := own_type h' g hg.symm
    rw [hc] at hc'
    injection hc' with hc'
    injection hc' with _ hc'
    exact he hc'

/-- append(s, x), x a struct of 'size' cells, to a slice that is the call's own. -/
theorem appendS {P : Program} {w : World} {ops : Array Oper} {rest : List Oper} {o : Oper} {a : Act} {Q : Exit → Act → World → Prop} (hgd : o.guard = none) (s x : Operand) (t : TypeId)
    (ho : o.op = .call { callee := .builtin .append, args := #[s, x], argTypes := #[t, t] })
    (B : Nat) (e : TypeId) (z : Value) (size bytes : Nat) (ht : P.underlying t = some (.slice e)) (hi : (P.info? e).map (fun i => (i.zero, i.size, i.bytes)) = some (some z, size, bytes))
    (hzs : z.cells.size = size) (hsz : 0 < size)
    (v : Value) (n : Nat) (xs : List Value) (news : List Value) (hs : a.eval s = v) (hown : w.ownsRow B e size v n xs) (hB : B ≤ w.heap.size)
    (X : Nat) (hx : a.eval x = .slice (some ⟨X, 0, none⟩) 1 1) (hX : X = w.heap.size) (hnl : news.length = size) (hu : ∀ u ∈ news, u.oneCell' = true) (hn : n < 4294967296) (hby : bytes ≤ 10000)
    (h : ∀ ad c w', w'.ownsRow B e size (.slice ad (n + 1) c) (n + 1) (xs ++ news) → Below B w w' → w.heap.size < w'.heap.size → (w.alloc (.cells news.toArray e)).grownBy w' v.ownBlock → wpList P ops Q rest (a.put o.dst (.slice ad (n + 1) c)) w') :
    wpList P ops Q (o :: rest) a (w.alloc (.cells news.toArray e)) := by
  subst hX
  obtain ⟨i0, hi0, hz0, hz1, hz2⟩ := info_parts hi
  refine wpList_append_own _ hgd s x t ho B e i0 z size bytes ht hi0 hz0 hz1 hz2 hzs hsz v n xs hs (hown.alloc _) ⟨w.heap.size, 0, none⟩ 1 1 news hx (by rw [hnl]; omega) ?_ hu
    (by unfold maxLen; omega) ?_ (by simp; omega) ?_
  · intro j u hj
    have e : (⟨w.heap.size, 0, none⟩ : Addr).add j = ⟨w.heap.size, j, none⟩ := by unfold Addr.add; split <;> simp_all
    have hjl : j < news.length := (List.getElem?_eq_some_iff.1 hj).1
    rw [e, World.cell?_alloc_at _ _ _ _ (by simp)]
    simp [hj]
  · have : (n + 1) * bytes ≤ 4294967296 * 10000 := Nat.mul_le_mul (by omega) hby
    omega
  · intro v' w' hown' hg _
    obtain ⟨ad, c, rfl⟩ : ∃ ad c, v' = .slice ad (n + 1) c := by
      rcases hown'.2 with ⟨_, h0⟩ | ⟨g, c, cur, hv, _⟩
      · omega
      · exact ⟨_, c, hv⟩
    have hsz' := hg.size
    simp at hsz'
    exact h ad c w' hown' (((Below.refl B w).alloc hB _).grown hg (by simp; omega) (fun k hk => (hown.lt k hk).1)) (by omega) hg

/-- A row stands where what grows is a row of another type, or nothing was known of it. -/
theorem own_grown {w w' : World} {B B' : Nat} {e e' : TypeId} {size size' : Nat} {v v' : Value} {n n' : Nat} {xs xs' : List Value} (h : w.ownsRow B e size v n xs) (h' : w.ownsRow B' e' size' v' n' xs') (he : e ≠ e') (hg : w.grownBy w' v'.ownBlock) : w'.ownsRow B e size v n xs :=
  h.kept hg (own_apart h h' he)

/-- One cell of a row of the call's own is written. -/
theorem own_stored {w : World} {B : Nat} {e : TypeId} {size g n c : Nat} {xs : List Value} (h : w.ownsRow B e size (.slice (some ⟨g, 0, none⟩) n c) n xs) (j : Nat) (u : Value) : (w.setCell ⟨g, j, none⟩ u).ownsRow B e size (.slice (some ⟨g, 0, none⟩) n c) n (xs.set j u) := (h.stored j u).1
end Go.Proofs.Ythifddkmbjnncaa

/-
  Items and attributes of a call's own.
-/
namespace Go.Proofs.Ythifddkmbjnncaa
open Go.RowKit

def cellsA (a : AttrD) : List Value := [strV a.name, strV a.value]
/-- An item, and where its attributes stand. -/
abbrev Slot := ItemD × Option Addr × Nat
def cellsI (s : Slot) : List Value := [.int .i64 s.1.level, .int .i64 s.1.kind, strV s.1.name, strV s.1.text, .slice s.2.1 s.1.attrs.length s.2.2]
theorem cellsA_length (a : AttrD) : (cellsA a).length = 2 := rfl
theorem cellsI_length (s : Slot) : (cellsI s).length = 5 := rfl

/-- Attributes of the call's own. -/
def AttrsOwn (w : World) (B : Nat) (A : Option Addr) (c : Nat) (l : List AttrD) : Prop := w.ownsRow B 44 2 (.slice A l.length c) l.length (l.flatMap cellsA)
def ItemsOwn (w : World) (B : Nat) (A : Option Addr) (c : Nat) (S : List Slot) : Prop := w.ownsRow B 50 5 (.slice A S.length c) S.length (S.flatMap cellsI)

theorem add_zero_block (g k : Nat) : ((⟨g, 0, none⟩ : Addr).add k) = ⟨g, k, none⟩ := by unfold Addr.add; split <;> simp_all

theorem AttrsOwn.at {w : World} {B : Nat} {A : Option Addr} {c : Nat} {l : List AttrD} (h : AttrsOwn w B A c l) : AttrsAt w w.heap.size A l := fun hl => by
  obtain ⟨g, rfl, hb, hg, _, hc⟩ := own_flat cellsA cellsA_length h hl
  refine ⟨_, rfl, hg, fun k a ha => ⟨?_, ?_⟩⟩
  · have := hc k a 0 (strV a.name) ha rfl
    simpa using this
  · have := hc k a 1 (strV a.value) ha rfl
    rw [add_zero_block] at this ⊢
    exact this
theorem AttrsOwn.cap {w : World} {B : Nat} {A : Option Addr} {c : Nat} {l : List AttrD} (h : AttrsOwn w B A c l) : l.length ≤ c := by
  rcases h.2 with ⟨h1, h2⟩ | ⟨g, cap, cur, h1, _, _, h4, _⟩
  · omega
  · injection h1 with _ _ h3; omega
theorem ItemsOwn.at {w : World} {B : Nat} {A : Option Addr} {c : Nat} {S : List Slot} (h : ItemsOwn w B A c S) (ha : ∀ s ∈ S, AttrsAt w w.heap.size s.2.1 s.1.attrs ∧ s.1.attrs.length ≤ s.2.2) : ItemsAt w w.heap.size A (S.map (·.1)) := fun hl => by
  have hl' : 0 < S.length := by simpa using hl
  obtain ⟨g, rfl, hb, hg, _, hc⟩ := own_flat cellsI cellsI_length h hl'
  refine ⟨_, rfl, hg, fun k x hx => ?_⟩
  rw [List.getElem?_map] at hx
  obtain ⟨s, hs, rfl⟩ := Option.map_eq_some_iff.1 hx
  obtain ⟨h1, h2⟩ := ha s (List.mem_of_getElem? hs)
  have e : ∀ j u, (cellsI s)[j]? = some u → w.cell? ⟨g, k * 5 + j, none⟩ = some u := fun j u hu => by
    have := hc k s j u hs hu
    rwa [add_zero_block] at this
  refine ⟨s.2.1, s.2.2, h1, h2, ?_⟩
  rw [add_zero_block]
  exact ⟨e 0 _ rfl, e 1 _ rfl, e 2 _ rfl, e 3 _ rfl, e 4 _ rfl⟩

theorem infoAttr : (Try.prog.info? 44).map (fun i => (i.zero, i.size, i.bytes)) = some (some (.agg #[.string ByteArray.empty, .string ByteArray.empty]), 2, 32) := by kernel_rfl
theorem infoItem : (Try.prog.info? 50).map (fun i => (i.zero, i.size, i.bytes)) = some (some (.agg #[.int .i64 0, .int .i64 0, .string ByteArray.empty, .string ByteArray.empty, .slice none 0 0]), 5, 72) := by kernel_rfl

theorem AttrsAt.flat {w : World} {B : Nat} {ad : Addr} {l : List AttrD} (h : AttrsAt w B (some ad) l) : ∀ j u, (l.flatMap cellsA)[j]? = some u → w.cell? (ad.add j) = some u := by
  intro j u hu
  have hlen := flat_length cellsA 2 cellsA_length l
  have hj : j < l.length * 2 := by rw [← hlen]; exact (List.getElem?_eq_some_iff.1 hu).1
  obtain ⟨q, r, hr, rfl⟩ : ∃ q r, r < 2 ∧ j = q * 2 + r := ⟨j / 2, j % 2, by omega, by omega⟩
  have hq : q < l.length := by omega
  have hx : l[q]? = some l[q] := List.getElem?_eq_getElem hq
  rw [flat_get cellsA 2 cellsA_length l q r _ hx hr] at hu
  obtain ⟨ad', e, _, hc⟩ := h (by omega)
  injection e with e; subst e
  obtain ⟨h0, h1⟩ := hc q _ hx
  match r, hr, hu with
  | 0, _, hu => injection hu with hu; subst hu; exact h0
  | 1, _, hu =>
    injection hu with hu; subst hu
    have : ad.add (q * 2 + 1) = ⟨(ad.add (q * 2)).block, (ad.add (q * 2)).off + 1, none⟩ := by
      rw [← add_of_add]; rfl
    rw [this]; exact h1

theorem cellsA_one (l : List AttrD) : ∀ u ∈ l.flatMap cellsA, u.oneCell' = true := by
  intro u hu
  obtain ⟨a, _, ha⟩ := List.mem_flatMap.1 hu
  simp [cellsA, strV] at ha
  rcases ha with rfl | rfl <;> rfl

def ClonePost (w : World) (l : List AttrD) (e : Ending) (w' : World) : Prop := ∃ A c, e = .returned (.slice A l.length c) ∧ AttrsOwn w' w.heap.size A c l ∧ Below w.heap.size w w'

end Go.Proofs.Ythifddkmbjnncaa

/-
  Items of a call's own; the walk of slices.Clone at attributes.
-/
namespace Go.Proofs.Ythifddkmbjnncaa
open Go.RowKit

set_option maxRecDepth 100000 in
set_option maxHeartbeats 1000000 in
theorem Clone_any (l : List AttrD) (A : Option Addr) (c : Nat) (w : World) (hA : AttrsAt w w.heap.size A l) (hl : l.length ≤ 1000000000) :
    Calls Try.prog 58 #[.slice A l.length c] w (ClonePost w l) := by
  have keql := fun (w' : World) => Lib.run_eql_slice_nil (P := Try.prog) w' 31 44 A l.length c 0 0 Try.underlying31
  cases A with
  | none =>
    have h0 : l.length = 0 := by
      rcases Nat.eq_zero_or_pos l.length with h | h
      · exact h
      · obtain ⟨_, h, _⟩ := hA h; cases h
    have hnil := List.eq_nil_of_length_eq_zero h0
    clear hA keql
    subst hnil
    have keql := fun (w' : World) => Lib.run_eql_slice_nil (P := Try.prog) w' 31 44 none 0 c 0 0 Try.underlying31
    go_enter Try.func58, Try.ntmps58
    go_wp2_with fail
    go_ret
    exact ⟨none, 0, rfl, World.ownsRow_nil _ _ _ _, Below.refl _ _⟩
  | some ad =>
    have HF := Lib.hid hA.flat
    have HB : Hid (0 < l.length → ad.block < w.heap.size) := fun h => by obtain ⟨_, e, hb, _⟩ := hA h; injection e with e; subst e; exact hb
    clear hA
    go_enter Try.func58, Try.ntmps58
    obtain ⟨i0, hi0, hz0, hz1, hz2⟩ := info_parts infoAttr
    have hown : (w.alloc (.cells #[] 44)).ownsRow w.heap.size 44 2 (.slice (some ⟨w.heap.size, 0, none⟩) 0 0) 0 [] :=
      ⟨by simp, .inr ⟨w.heap.size, 0, #[], rfl, Nat.le_refl _, heap_alloc_new w _, Nat.le_refl _, by decide, by simp, by simp⟩⟩
    go_wp2_with (at_builtin; go_loud (refine wpList_append_own _ rfl (.tmp 5) (.tmp 6) 31 rfl w.heap.size 44 i0 (.agg #[.string ByteArray.empty, .string ByteArray.empty]) 2 32 Try.underlying31 hi0 hz0 hz1 hz2 rfl (by decide) _ 0 [] rfl hown ad l.length c (l.flatMap cellsA) rfl (flat_length cellsA 2 cellsA_length l) ?c1 (cellsA_one l) ?c2 ?c3 (by simp) ?c4))
    case c1 =>
      intro j u hu
      have hj : j < l.length * 2 := by rw [← flat_length cellsA 2 cellsA_length l]; exact (List.getElem?_eq_some_iff.1 hu).1
      rw [World.cell?_alloc_lt _ _ _ (by rw [block_of_add]; exact HB.out (by omega))]
      exact HF.out j u hu
    case c2 => unfold maxLen; omega
    case c3 => omega
    case c4 =>
      intro v' w' hown' hg _
      obtain ⟨A', c', rfl⟩ : ∃ A' c', v' = .slice A' l.length c' := by
        rcases hown'.2 with ⟨h1, h2⟩ | ⟨g, c, cur, hv, _⟩
        · exact ⟨none, 0, by rw [h2]; exact h1⟩
        · exact ⟨_, c, hv⟩
      have hown' : w'.ownsRow w.heap.size 44 2 (.slice A' l.length c') l.length (l.flatMap cellsA) := hown'
      go_wp2_with fail
      go_ret
      exact ⟨A', c', rfl, hown', ((Below.refl _ w).alloc (Nat.le_refl _) _).grown hg (by simp) (fun k hk => (hown.lt k hk).1)⟩
end Go.Proofs.Ythifddkmbjnncaa

/-
  Texts of this claim, joined (by a program of the claim's author): Rd2, RL1, RefPlain.
-/
import Derived.Test.YthifddkmbjnncaaK1
import Derived.Test.YthifddkmbjnncaaK4
import Derived.Test.YthifddkmbjnncaaK3
import Derived.Deep.LoopGhost
import Derived.Test.YthifddkmbjnncaaK2
/-
  The reader of tokens: the walks of blanks and word.
-/
namespace Go.Proofs.Ythifddkmbjnncaa
open Go.RowKit

theorem skipL_nil : skipL [] = 0 := rfl
theorem skipL_cons (x : UInt8) (l : List UInt8) : skipL (x :: l) = if blankB x then skipL l + 1 else 0 := by
  unfold skipL
  rw [List.takeWhile_cons]
  split <;> rfl
theorem wordL_cons (x : UInt8) (l : List UInt8) : wordL (x :: l) = if nb x then x :: wordL l else [] := by
  unfold wordL
  rw [List.takeWhile_cons]

theorem u8_ne {x c : UInt8} (h : x ≠ c) : ((x.toNat : Int) == (c.toNat : Int)) = false := by
  have : x.toNat ≠ c.toNat := fun e => h (UInt8.toNat.inj e)
  simp; omega




set_option maxRecDepth 100000 in
set_option maxHeartbeats 4000000 in
theorem blanks_any (b : Nat) (r : Rdr) (w : World) (h : RdAt w b r) (hp : r.pos ≤ r.s.size) (hs : r.s.size ≤ 1000000000) (n : Nat) (hn : Hid (skipL (r.s.data.toList.drop r.pos) = n)) :
    Calls Try.prog 71 #[.pointer (some ⟨b, 0, none⟩)] w (RdPost w b { r with pos := r.pos + n } (.bool (decide (0 < n)))) := by
  have H := Lib.hid h
  obtain ⟨h0, h1, _⟩ := h.all
  have HL := Lib.hid (size_toList r.s)
  clear h
  go_enter Try.func71, Try.ntmps71
  go_wp2_with fail
  clear h0 h1
  go_loopg [] (r.s.size - r.pos) (fun g wr => ∃ p : Nat, r.pos ≤ p ∧ p ≤ r.s.size ∧ g = r.s.size - p ∧ Hid (RdAt wr b { r with pos := p }) ∧ Hid (p + skipL (r.s.data.toList.drop p) = r.pos + n) ∧ Hid (w.grownBy wr (some b)))
  case atStart => exact ⟨r.pos, Nat.le_refl _, hp, rfl, H.out, by show _ = _; rw [hn.out], World.grownBy.refl w _⟩
  case round =>
    obtain ⟨p, hrp, hk, rfl, HR, hin, hg⟩ := hrel
    have HS : Hid (wr.drew.cell? ⟨b, 0, none⟩ = some (.string r.s) ∧ wr.drew.cell? ⟨b, 1, none⟩ = some (.int .i64 p)) := ⟨HR.out.drew.all.1, HR.out.drew.all.2.1⟩
    by_cases hlt : p < r.s.size
    · obtain ⟨x, HX⟩ : ∃ x, Hid (r.s.data.toList[p]? = some x) := ⟨r.s.data.toList[p]'(by have := HL.out; omega), List.getElem?_eq_getElem _⟩
      have hsx : r.s[p] = x := getk_of r.s p x HX.out hlt
      have hin' := hin.out
      rw [drop_cons HX.out, skipL_cons] at hin'
      have j0 : (0 : Int) ≤ (p : Int) := by omega
      have j1 : (p : Int) < r.s.size := by omega
      clear hin
      by_cases hx32 : x = 32
      · subst hx32
        rw [if_pos (by decide)] at hin'
        have HIN : Hid (p + 1 + skipL (r.s.data.toList.drop (p + 1)) = r.pos + n) := by show _ = _; rw [← hin']; omega
        clear hin'
        go_wp2_with fail
        refine wp_region_held_drew (S := fun w' => w'.cell? ⟨b, 0, none⟩ = some (.string r.s) ∧ w'.cell? ⟨b, 1, none⟩ = some (.int .i64 p)) (by kernel_rfl) HS.out (fun hHeld => ?_)
        refine tk (oi := ⟨_, _, _, _, _, _⟩) (v := ?_) 0 rfl (by kernel_rfl) (fun _ _ _ h => h) (.inl ⟨by rfl, ?_⟩) (by assumption) ?_; rotate_left
        · (intro wS hSw; (try dsimp only at hSw); go_simp); all_goals with_reducible rfl
        try go_frame
        refine tk (oi := ⟨_, _, _, _, _, _⟩) (v := ?_) 1 rfl (by kernel_rfl) (fun _ _ _ h => h) (.inl ⟨by rfl, ?_⟩) (by assumption) ?_; rotate_left
        · (intro wS hSw; (try dsimp only at hSw); go_simp); all_goals with_reducible rfl
        try go_frame
        refine tk (oi := ⟨_, _, _, _, _, _⟩) (v := ?_) 2 rfl (by kernel_rfl) (fun _ _ _ h => h) (.inl ⟨by rfl, ?_⟩) (by assumption) ?_; rotate_left
        · (intro wS hSw; (try dsimp only at hSw); go_simp); all_goals with_reducible rfl
        try go_frame
        refine tk (oi := ⟨_, _, _, _, _, _⟩) (v := ?_) 3 rfl (by kernel_rfl) (fun _ _ _ h => h) (.inl ⟨by rfl, ?_⟩) (by assumption) ?_; rotate_left
        · (intro wS hSw; (try dsimp only at hSw); go_simp); all_goals with_reducible rfl
        try go_frame
        refine tk (oi := ⟨_, _, _, _, _, _⟩) (v := ?_) 4 rfl (by kernel_rfl) (fun _ _ _ h => h) (.inl ⟨by rfl, ?_⟩) (by assumption) ?_; rotate_left
        · (intro wS hSw; (try dsimp only at hSw); go_simp); all_goals with_reducible rfl
        try go_frame
        refine tk (oi := ⟨_, _, _, _, _, _⟩) (v := ?_) 5 rfl (by kernel_rfl) (fun _ _ _ h => h) (.inl ⟨by rfl, ?_⟩) (by assumption) ?_; rotate_left
        · (intro wS hSw; (try dsimp only at hSw); go_simp); all_goals with_reducible rfl
        try go_frame
        refine tk (oi := ⟨_, _, _, _, _, _⟩) (v := ?_) 6 rfl (by kernel_rfl) (fun _ _ _ h => h) (.inl ⟨by rfl, ?_⟩) (by assumption) ?_; rotate_left
        · (intro wS hSw; (try dsimp only at hSw); go_simp); all_goals with_reducible rfl
        try go_frame
        refine tk (oi := ⟨_, _, _, _, _, _⟩) (v := ?_) 7 rfl (by kernel_rfl) (fun _ _ _ h => h) (.inl ⟨by rfl, ?_⟩) (by assumption) ?_; rotate_left
        · (intro wS hSw; (try dsimp only at hSw); go_simp); all_goals with_reducible rfl
        try go_frame
        refine tk (oi := ⟨_, _, _, _, _, _⟩) (v := ?_) 8 rfl (by kernel_rfl) (fun _ _ _ h => h) (.inl ⟨by rfl, ?_⟩) (by assumption) ?_; rotate_left
        · (intro wS hSw; (try dsimp only at hSw); go_simp); all_goals with_reducible rfl
        try go_frame
        refine tk (oi := ⟨_, _, _, _, _, _⟩) (v := ?_) 9 rfl (by kernel_rfl) (fun _ _ _ h => h) (.inl ⟨by rfl, ?_⟩) (by assumption) ?_; rotate_left
        · (intro wS hSw; (try dsimp only at hSw); go_simp); all_goals with_reducible rfl
        try go_frame
        refine tk (oi := ⟨_, _, _, _, _, _⟩) (v := ?_) 10 rfl (by kernel_rfl) (fun _ _ _ h => h) (.inl ⟨by rfl, ?_⟩) (by assumption) ?_; rotate_left
        · (intro wS hSw; (try dsimp only at hSw); go_simp); all_goals with_reducible rfl
        try go_frame
        refine tk (oi := ⟨_, _, _, _, _, _⟩) (v := ?_) 11 rfl (by kernel_rfl) (fun _ _ _ h => h) (.inl ⟨by rfl, ?_⟩) (by assumption) ?_; rotate_left
        · (intro wS hSw; (try dsimp only at hSw); go_simp); all_goals with_reducible rfl
        try go_frame
        refine tk (oi := ⟨_, _, _, _, _, _⟩) (v := ?_) 12 rfl (by kernel_rfl) (fun _ _ _ h => h) (.inl ⟨by rfl, ?_⟩) (by assumption) ?_; rotate_left
        · (intro wS hSw; (try dsimp only at hSw); go_simp); all_goals with_reducible rfl
        try go_frame
        refine tk (oi := ⟨_, _, _, _, _, _⟩) (v := ?_) 13 rfl (by kernel_rfl) (fun _ _ _ h => h) (.inl ⟨by rfl, ?_⟩) (by assumption) ?_; rotate_left
        · (intro wS hSw; (try dsimp only at hSw); go_simp); all_goals with_reducible rfl
        try go_frame
        refine tk (oi := ⟨_, _, _, _, _, _⟩) (v := ?_) 14 rfl (by kernel_rfl) (fun _ _ _ h => h) (.inl ⟨by rfl, ?_⟩) (by assumption) ?_; rotate_left
        · (intro wS hSw; (try dsimp only at hSw); go_simp); all_goals with_reducible rfl
        try go_frame
        refine tk (oi := ⟨_, _, _, _, _, _⟩) (v := ?_) 15 rfl (by kernel_rfl) (fun _ _ _ h => h) (.inl ⟨by rfl, ?_⟩) (by assumption) ?_; rotate_left
        · (intro wS hSw; (try dsimp only at hSw); go_simp); all_goals with_reducible rfl
        try go_frame
        refine tk (oi := ⟨_, _, _, _, _, _⟩) (v := ?_) 16 rfl (by kernel_rfl) (fun _ _ _ h => h) (.inl ⟨by rfl, ?_⟩) (by assumption) ?_; rotate_left
        · (intro wS hSw; (try dsimp only at hSw); go_simp); all_goals with_reducible rfl
        try go_frame
        refine tk (oi := ⟨_, _, _, _, _, _⟩) (v := ?_) 17 rfl (by kernel_rfl) (fun _ _ _ h => h) (.inl ⟨by rfl, ?_⟩) (by assumption) ?_; rotate_left
        · (intro wS hSw; (try dsimp only at hSw); go_simp); all_goals with_reducible rfl
        try go_frame
        refine tk (oi := ⟨_, _, _, _, _, _⟩) (v := ?_) 18 rfl (by kernel_rfl) (fun _ _ _ h => h) (.inl ⟨by rfl, ?_⟩) (by assumption) ?_; rotate_left
        · (intro wS hSw; (try dsimp only at hSw); go_simp); all_goals with_reducible rfl
        try go_frame
        refine tk (oi := ⟨_, _, _, _, _, _⟩) (v := ?_) 19 rfl (by kernel_rfl) (fun _ _ _ h => h) (.inl ⟨by rfl, ?_⟩) (by assumption) ?_; rotate_left
        · (intro wS hSw; (try dsimp only at hSw); go_simp); all_goals with_reducible rfl
        try go_frame
        refine tk (oi := ⟨_, _, _, _, _, _⟩) (v := ?_) 20 rfl (by kernel_rfl) (fun _ _ _ h => h) (.inl ⟨by rfl, ?_⟩) (by assumption) ?_; rotate_left
        · (intro wS hSw; (try dsimp only at hSw); go_simp); all_goals with_reducible rfl
        try go_frame
        refine tk (oi := ⟨_, _, _, _, _, _⟩) (v := ?_) 21 rfl (by kernel_rfl) (fun _ _ _ h => h) (.inl ⟨by rfl, ?_⟩) (by assumption) ?_; rotate_left
        · (intro wS hSw; (try dsimp only at hSw); go_simp); all_goals with_reducible rfl
        try go_frame
        refine tk (oi := ⟨_, _, _, _, _, _⟩) (v := undef) 22 rfl (by kernel_rfl) (fun _ _ _ h => h) (.inr ⟨by rfl, rfl⟩) (by assumption) ?_
        try go_frame
        refine tk (oi := ⟨_, _, _, _, _, _⟩) (v := undef) 23 rfl (by kernel_rfl) (fun _ _ _ h => h) (.inr ⟨by rfl, rfl⟩) (by assumption) ?_
        try go_frame
        refine tk (oi := ⟨_, _, _, _, _, _⟩) (v := undef) 24 rfl (by kernel_rfl) (fun _ _ _ h => h) (.inr ⟨by rfl, rfl⟩) (by assumption) ?_
        try go_frame
        refine tk (oi := ⟨_, _, _, _, _, _⟩) (v := undef) 25 rfl (by kernel_rfl) (fun _ _ _ h => h) (.inr ⟨by rfl, rfl⟩) (by assumption) ?_
        try go_frame
        refine tk (oi := ⟨_, _, _, _, _, _⟩) (v := undef) 26 rfl (by kernel_rfl) (fun _ _ _ h => h) (.inr ⟨by rfl, rfl⟩) (by assumption) ?_
        try go_frame
        refine tk (oi := ⟨_, _, _, _, _, _⟩) (v := undef) 27 rfl (by kernel_rfl) (fun _ _ _ h => h) (.inr ⟨by rfl, rfl⟩) (by assumption) ?_
        try go_frame
        refine tk (oi := ⟨_, _, _, _, _, _⟩) (v := undef) 28 rfl (by kernel_rfl) (fun _ _ _ h => h) (.inr ⟨by rfl, rfl⟩) (by assumption) ?_
        try go_frame
        refine tk (oi := ⟨_, _, _, _, _, _⟩) (v := undef) 29 rfl (by kernel_rfl) (fun _ _ _ h => h) (.inr ⟨by rfl, rfl⟩) (by assumption) ?_
        try go_frame
        refine tk (oi := ⟨_, _, _, _, _, _⟩) (v := undef) 30 rfl (by kernel_rfl) (fun _ _ _ h => h) (.inr ⟨by rfl, rfl⟩) (by assumption) ?_
        try go_frame
        refine tk (oi := ⟨_, _, _, _, _, _⟩) (v := undef) 31 rfl (by kernel_rfl) (fun _ _ _ h => h) (.inr ⟨by rfl, rfl⟩) (by assumption) ?_
        try go_frame
        refine tk (oi := ⟨_, _, _, _, _, _⟩) (v := ?_) 32 rfl (by kernel_rfl) (fun _ _ _ h => h) (.inl ⟨by rfl, ?_⟩) (by assumption) ?_; rotate_left
        · (intro wS hSw; (try dsimp only at hSw); go_simp); all_goals with_reducible rfl
        try go_frame
        refine tk (oi := ⟨_, _, _, _, _, _⟩) (v := ?_) 33 rfl (by kernel_rfl) (fun _ _ _ h => h) (.inl ⟨by rfl, ?_⟩) (by assumption) ?_; rotate_left
        · (intro wS hSw; (try dsimp only at hSw); go_simp); all_goals with_reducible rfl
        try go_frame
        refine tk (oi := ⟨_, _, _, _, _, _⟩) (v := undef) 34 rfl (by kernel_rfl) (fun _ _ _ h => h) (.inr ⟨by rfl, rfl⟩) (by assumption) ?_
        try go_frame
        refine tk (oi := ⟨_, _, _, _, _, _⟩) (v := undef) 35 rfl (by kernel_rfl) (fun _ _ _ h => h) (.inr ⟨by rfl, rfl⟩) (by assumption) ?_
        try go_frame
        refine tk (oi := ⟨_, _, _, _, _, _⟩) (v := undef) 36 rfl (by kernel_rfl) (fun _ _ _ h => h) (.inr ⟨by rfl, rfl⟩) (by assumption) ?_
        try go_frame
        refine tk (oi := ⟨_, _, _, _, _, _⟩) (v := undef) 37 rfl (by kernel_rfl) (fun _ _ _ h => h) (.inr ⟨by rfl, rfl⟩) (by assumption) ?_
        try go_frame
        refine tk (oi := ⟨_, _, _, _, _, _⟩) (v := undef) 38 rfl (by kernel_rfl) (fun _ _ _ h => h) (.inr ⟨by rfl, rfl⟩) (by assumption) ?_
        try go_frame
        refine tk (oi := ⟨_, _, _, _, _, _⟩) (v := undef) 39 rfl (by kernel_rfl) (fun _ _ _ h => h) (.inr ⟨by rfl, rfl⟩) (by assumption) ?_
        try go_frame
        refine tk (oi := ⟨_, _, _, _, _, _⟩) (v := undef) 40 rfl (by kernel_rfl) (fun _ _ _ h => h) (.inr ⟨by rfl, rfl⟩) (by assumption) ?_
        try go_frame
        refine tk (oi := ⟨_, _, _, _, _, _⟩) (v := undef) 41 rfl (by kernel_rfl) (fun _ _ _ h => h) (.inr ⟨by rfl, rfl⟩) (by assumption) ?_
        try go_frame
        refine tk (oi := ⟨_, _, _, _, _, _⟩) (v := undef) 42 rfl (by kernel_rfl) (fun _ _ _ h => h) (.inr ⟨by rfl, rfl⟩) (by assumption) ?_
        try go_frame
        refine tk (oi := ⟨_, _, _, _, _, _⟩) (v := undef) 43 rfl (by kernel_rfl) (fun _ _ _ h => h) (.inr ⟨by rfl, rfl⟩) (by assumption) ?_
        try go_frame
        refine tk (oi := ⟨_, _, _, _, _, _⟩) (v := ?_) 44 rfl (by kernel_rfl) (fun _ _ _ h => h) (.inl ⟨by rfl, ?_⟩) (by assumption) ?_; rotate_left
        · (intro wS hSw; (try dsimp only at hSw); go_simp); all_goals with_reducible rfl
        try go_frame
        refine tk (oi := ⟨_, _, _, _, _, _⟩) (v := ?_) 45 rfl (by kernel_rfl) (fun _ _ _ h => h) (.inl ⟨by rfl, ?_⟩) (by assumption) ?_; rotate_left
        · (intro wS hSw; (try dsimp only at hSw); go_simp); all_goals with_reducible rfl
        try go_frame
        refine wpAnyH_done (by kernel_rfl) ?_ _
        clear hHeld
        obtain ⟨h0, h1⟩ := HS.out
        have f1 : wr.drew.frozen? ⟨b, 1, none⟩ = false := HR.out.drew.froz 1
        go_wp2_with fail
        go_roundg (r.s.size - (p + 1))
        case measure => omega
        case rel => exact ⟨p + 1, by omega, by omega, rfl, HR.out.drew.pos (p + 1), HIN, grown_twice (grown_drew hg.out) (Lib.grownBy_setCell _ b 1 _)⟩
      by_cases hx9 : x = 9
      · subst hx9
        rw [if_pos (by decide)] at hin'
        have HIN : Hid (p + 1 + skipL (r.s.data.toList.drop (p + 1)) = r.pos + n) := by show _ = _; rw [← hin']; omega
        clear hin' hx32
        go_wp2_with fail
        refine wp_region_held_drew (S := fun w' => w'.cell? ⟨b, 0, none⟩ = some (.string r.s) ∧ w'.cell? ⟨b, 1, none⟩ = some (.int .i64 p)) (by kernel_rfl) HS.out (fun hHeld => ?_)
        refine tk (oi := ⟨_, _, _, _, _, _⟩) (v := ?_) 0 rfl (by kernel_rfl) (fun _ _ _ h => h) (.inl ⟨by rfl, ?_⟩) (by assumption) ?_; rotate_left
        · (intro wS hSw; (try dsimp only at hSw); go_simp); all_goals with_reducible rfl
        try go_frame
        refine tk (oi := ⟨_, _, _, _, _, _⟩) (v := ?_) 1 rfl (by kernel_rfl) (fun _ _ _ h => h) (.inl ⟨by rfl, ?_⟩) (by assumption) ?_; rotate_left
        · (intro wS hSw; (try dsimp only at hSw); go_simp); all_goals with_reducible rfl
        try go_frame
        refine tk (oi := ⟨_, _, _, _, _, _⟩) (v := ?_) 2 rfl (by kernel_rfl) (fun _ _ _ h => h) (.inl ⟨by rfl, ?_⟩) (by assumption) ?_; rotate_left
        · (intro wS hSw; (try dsimp only at hSw); go_simp); all_goals with_reducible rfl
        try go_frame
        refine tk (oi := ⟨_, _, _, _, _, _⟩) (v := ?_) 3 rfl (by kernel_rfl) (fun _ _ _ h => h) (.inl ⟨by rfl, ?_⟩) (by assumption) ?_; rotate_left
        · (intro wS hSw; (try dsimp only at hSw); go_simp); all_goals with_reducible rfl
        try go_frame
        refine tk (oi := ⟨_, _, _, _, _, _⟩) (v := ?_) 4 rfl (by kernel_rfl) (fun _ _ _ h => h) (.inl ⟨by rfl, ?_⟩) (by assumption) ?_; rotate_left
        · (intro wS hSw; (try dsimp only at hSw); go_simp); all_goals with_reducible rfl
        try go_frame
        refine tk (oi := ⟨_, _, _, _, _, _⟩) (v := ?_) 5 rfl (by kernel_rfl) (fun _ _ _ h => h) (.inl ⟨by rfl, ?_⟩) (by assumption) ?_; rotate_left
        · (intro wS hSw; (try dsimp only at hSw); go_simp); all_goals with_reducible rfl
        try go_frame
        refine tk (oi := ⟨_, _, _, _, _, _⟩) (v := ?_) 6 rfl (by kernel_rfl) (fun _ _ _ h => h) (.inl ⟨by rfl, ?_⟩) (by assumption) ?_; rotate_left
        · (intro wS hSw; (try dsimp only at hSw); go_simp); all_goals with_reducible rfl
        try go_frame
        refine tk (oi := ⟨_, _, _, _, _, _⟩) (v := ?_) 7 rfl (by kernel_rfl) (fun _ _ _ h => h) (.inl ⟨by rfl, ?_⟩) (by assumption) ?_; rotate_left
        · (intro wS hSw; (try dsimp only at hSw); go_simp); all_goals with_reducible rfl
        try go_frame
        refine tk (oi := ⟨_, _, _, _, _, _⟩) (v := ?_) 8 rfl (by kernel_rfl) (fun _ _ _ h => h) (.inl ⟨by rfl, ?_⟩) (by assumption) ?_; rotate_left
        · (intro wS hSw; (try dsimp only at hSw); go_simp); all_goals with_reducible rfl
        try go_frame
        refine tk (oi := ⟨_, _, _, _, _, _⟩) (v := ?_) 9 rfl (by kernel_rfl) (fun _ _ _ h => h) (.inl ⟨by rfl, ?_⟩) (by assumption) ?_; rotate_left
        · (intro wS hSw; (try dsimp only at hSw); go_simp); all_goals with_reducible rfl
        try go_frame
        refine tk (oi := ⟨_, _, _, _, _, _⟩) (v := ?_) 10 rfl (by kernel_rfl) (fun _ _ _ h => h) (.inl ⟨by rfl, ?_⟩) (by assumption) ?_; rotate_left
        · (intro wS hSw; (try dsimp only at hSw); go_simp); all_goals with_reducible rfl
        try go_frame
        refine tk (oi := ⟨_, _, _, _, _, _⟩) (v := ?_) 11 rfl (by kernel_rfl) (fun _ _ _ h => h) (.inl ⟨by rfl, ?_⟩) (by assumption) ?_; rotate_left
        · (intro wS hSw; (try dsimp only at hSw); go_simp); all_goals with_reducible rfl
        try go_frame
        refine tk (oi := ⟨_, _, _, _, _, _⟩) (v := ?_) 12 rfl (by kernel_rfl) (fun _ _ _ h => h) (.inl ⟨by rfl, ?_⟩) (by assumption) ?_; rotate_left
        · (intro wS hSw; (try dsimp only at hSw); go_simp); all_goals with_reducible rfl
        try go_frame
        refine tk (oi := ⟨_, _, _, _, _, _⟩) (v := ?_) 13 rfl (by kernel_rfl) (fun _ _ _ h => h) (.inl ⟨by rfl, ?_⟩) (by assumption) ?_; rotate_left
        · (intro wS hSw; (try dsimp only at hSw); go_simp); all_goals with_reducible rfl
        try go_frame
        refine tk (oi := ⟨_, _, _, _, _, _⟩) (v := ?_) 14 rfl (by kernel_rfl) (fun _ _ _ h => h) (.inl ⟨by rfl, ?_⟩) (by assumption) ?_; rotate_left
        · (intro wS hSw; (try dsimp only at hSw); go_simp); all_goals with_reducible rfl
        try go_frame
        refine tk (oi := ⟨_, _, _, _, _, _⟩) (v := ?_) 15 rfl (by kernel_rfl) (fun _ _ _ h => h) (.inl ⟨by rfl, ?_⟩) (by assumption) ?_; rotate_left
        · (intro wS hSw; (try dsimp only at hSw); go_simp); all_goals with_reducible rfl
        try go_frame
        refine tk (oi := ⟨_, _, _, _, _, _⟩) (v := ?_) 16 rfl (by kernel_rfl) (fun _ _ _ h => h) (.inl ⟨by rfl, ?_⟩) (by assumption) ?_; rotate_left
        · (intro wS hSw; (try dsimp only at hSw); go_simp); all_goals with_reducible rfl
        try go_frame
        refine tk (oi := ⟨_, _, _, _, _, _⟩) (v := ?_) 17 rfl (by kernel_rfl) (fun _ _ _ h => h) (.inl ⟨by rfl, ?_⟩) (by assumption) ?_; rotate_left
        · (intro wS hSw; (try dsimp only at hSw); go_simp); all_goals with_reducible rfl
        try go_frame
        refine tk (oi := ⟨_, _, _, _, _, _⟩) (v := ?_) 18 rfl (by kernel_rfl) (fun _ _ _ h => h) (.inl ⟨by rfl, ?_⟩) (by assumption) ?_; rotate_left
        · (intro wS hSw; (try dsimp only at hSw); go_simp); all_goals with_reducible rfl
        try go_frame
        refine tk (oi := ⟨_, _, _, _, _, _⟩) (v := ?_) 19 rfl (by kernel_rfl) (fun _ _ _ h => h) (.inl ⟨by rfl, ?_⟩) (by assumption) ?_; rotate_left
        · (intro wS hSw; (try dsimp only at hSw); go_simp); all_goals with_reducible rfl
        try go_frame
        refine tk (oi := ⟨_, _, _, _, _, _⟩) (v := ?_) 20 rfl (by kernel_rfl) (fun _ _ _ h => h) (.inl ⟨by rfl, ?_⟩) (by assumption) ?_; rotate_left
        · (intro wS hSw; (try dsimp only at hSw); go_simp); all_goals with_reducible rfl
        try go_frame
        refine tk (oi := ⟨_, _, _, _, _, _⟩) (v := ?_) 21 rfl (by kernel_rfl) (fun _ _ _ h => h) (.inl ⟨by rfl, ?_⟩) (by assumption) ?_; rotate_left
        · (intro wS hSw; (try dsimp only at hSw); go_simp); all_goals with_reducible rfl
        try go_frame
        refine tk (oi := ⟨_, _, _, _, _, _⟩) (v := ?_) 22 rfl (by kernel_rfl) (fun _ _ _ h => h) (.inl ⟨by rfl, ?_⟩) (by assumption) ?_; rotate_left
        · (intro wS hSw; (try dsimp only at hSw); go_simp); all_goals with_reducible rfl
        try go_frame
        refine tk (oi := ⟨_, _, _, _, _, _⟩) (v := ?_) 23 rfl (by kernel_rfl) (fun _ _ _ h => h) (.inl ⟨by rfl, ?_⟩) (by assumption) ?_; rotate_left
        · (intro wS hSw; (try dsimp only at hSw); go_simp); all_goals with_reducible rfl
        try go_frame
        refine tk (oi := ⟨_, _, _, _, _, _⟩) (v := ?_) 24 rfl (by kernel_rfl) (fun _ _ _ h => h) (.inl ⟨by rfl, ?_⟩) (by assumption) ?_; rotate_left
        · (intro wS hSw; (try dsimp only at hSw); go_simp); all_goals with_reducible rfl
        try go_frame
        refine tk (oi := ⟨_, _, _, _, _, _⟩) (v := ?_) 25 rfl (by kernel_rfl) (fun _ _ _ h => h) (.inl ⟨by rfl, ?_⟩) (by assumption) ?_; rotate_left
        · (intro wS hSw; (try dsimp only at hSw); go_simp); all_goals with_reducible rfl
        try go_frame
        refine tk (oi := ⟨_, _, _, _, _, _⟩) (v := ?_) 26 rfl (by kernel_rfl) (fun _ _ _ h => h) (.inl ⟨by rfl, ?_⟩) (by assumption) ?_; rotate_left
        · (intro wS hSw; (try dsimp only at hSw); go_simp); all_goals with_reducible rfl
        try go_frame
        refine tk (oi := ⟨_, _, _, _, _, _⟩) (v := ?_) 27 rfl (by kernel_rfl) (fun _ _ _ h => h) (.inl ⟨by rfl, ?_⟩) (by assumption) ?_; rotate_left
        · (intro wS hSw; (try dsimp only at hSw); go_simp); all_goals with_reducible rfl
        try go_frame
        refine tk (oi := ⟨_, _, _, _, _, _⟩) (v := ?_) 28 rfl (by kernel_rfl) (fun _ _ _ h => h) (.inl ⟨by rfl, ?_⟩) (by assumption) ?_; rotate_left
        · (intro wS hSw; (try dsimp only at hSw); go_simp); all_goals with_reducible rfl
        try go_frame
        refine tk (oi := ⟨_, _, _, _, _, _⟩) (v := ?_) 29 rfl (by kernel_rfl) (fun _ _ _ h => h) (.inl ⟨by rfl, ?_⟩) (by assumption) ?_; rotate_left
        · (intro wS hSw; (try dsimp only at hSw); go_simp); all_goals with_reducible rfl
        try go_frame
        refine tk (oi := ⟨_, _, _, _, _, _⟩) (v := ?_) 30 rfl (by kernel_rfl) (fun _ _ _ h => h) (.inl ⟨by rfl, ?_⟩) (by assumption) ?_; rotate_left
        · (intro wS hSw; (try dsimp only at hSw); go_simp); all_goals with_reducible rfl
        try go_frame
        refine tk (oi := ⟨_, _, _, _, _, _⟩) (v := ?_) 31 rfl (by kernel_rfl) (fun _ _ _ h => h) (.inl ⟨by rfl, ?_⟩) (by assumption) ?_; rotate_left
        · (intro wS hSw; (try dsimp only at hSw); go_simp); all_goals with_reducible rfl
        try go_frame
        refine tk (oi := ⟨_, _, _, _, _, _⟩) (v := ?_) 32 rfl (by kernel_rfl) (fun _ _ _ h => h) (.inl ⟨by rfl, ?_⟩) (by assumption) ?_; rotate_left
        · (intro wS hSw; (try dsimp only at hSw); go_simp); all_goals with_reducible rfl
        try go_frame
        refine tk (oi := ⟨_, _, _, _, _, _⟩) (v := ?_) 33 rfl (by kernel_rfl) (fun _ _ _ h => h) (.inl ⟨by rfl, ?_⟩) (by assumption) ?_; rotate_left
        · (intro wS hSw; (try dsimp only at hSw); go_simp); all_goals with_reducible rfl
        try go_frame
        refine tk (oi := ⟨_, _, _, _, _, _⟩) (v := undef) 34 rfl (by kernel_rfl) (fun _ _ _ h => h) (.inr ⟨by rfl, rfl⟩) (by assumption) ?_
        try go_frame
        refine tk (oi := ⟨_, _, _, _, _, _⟩) (v := undef) 35 rfl (by kernel_rfl) (fun _ _ _ h => h) (.inr ⟨by rfl, rfl⟩) (by assumption) ?_
        try go_frame
        refine tk (oi := ⟨_, _, _, _, _, _⟩) (v := undef) 36 rfl (by kernel_rfl) (fun _ _ _ h => h) (.inr ⟨by rfl, rfl⟩) (by assumption) ?_
        try go_frame
        refine tk (oi := ⟨_, _, _, _, _, _⟩) (v := undef) 37 rfl (by kernel_rfl) (fun _ _ _ h => h) (.inr ⟨by rfl, rfl⟩) (by assumption) ?_
        try go_frame
        refine tk (oi := ⟨_, _, _, _, _, _⟩) (v := undef) 38 rfl (by kernel_rfl) (fun _ _ _ h => h) (.inr ⟨by rfl, rfl⟩) (by assumption) ?_
        try go_frame
        refine tk (oi := ⟨_, _, _, _, _, _⟩) (v := undef) 39 rfl (by kernel_rfl) (fun _ _ _ h => h) (.inr ⟨by rfl, rfl⟩) (by assumption) ?_
        try go_frame
        refine tk (oi := ⟨_, _, _, _, _, _⟩) (v := undef) 40 rfl (by kernel_rfl) (fun _ _ _ h => h) (.inr ⟨by rfl, rfl⟩) (by assumption) ?_
        try go_frame
        refine tk (oi := ⟨_, _, _, _, _, _⟩) (v := undef) 41 rfl (by kernel_rfl) (fun _ _ _ h => h) (.inr ⟨by rfl, rfl⟩) (by assumption) ?_
        try go_frame
        refine tk (oi := ⟨_, _, _, _, _, _⟩) (v := undef) 42 rfl (by kernel_rfl) (fun _ _ _ h => h) (.inr ⟨by rfl, rfl⟩) (by assumption) ?_
        try go_frame
        refine tk (oi := ⟨_, _, _, _, _, _⟩) (v := undef) 43 rfl (by kernel_rfl) (fun _ _ _ h => h) (.inr ⟨by rfl, rfl⟩) (by assumption) ?_
        try go_frame
        refine tk (oi := ⟨_, _, _, _, _, _⟩) (v := ?_) 44 rfl (by kernel_rfl) (fun _ _ _ h => h) (.inl ⟨by rfl, ?_⟩) (by assumption) ?_; rotate_left
        · (intro wS hSw; (try dsimp only at hSw); go_simp); all_goals with_reducible rfl
        try go_frame
        refine tk (oi := ⟨_, _, _, _, _, _⟩) (v := ?_) 45 rfl (by kernel_rfl) (fun _ _ _ h => h) (.inl ⟨by rfl, ?_⟩) (by assumption) ?_; rotate_left
        · (intro wS hSw; (try dsimp only at hSw); go_simp); all_goals with_reducible rfl
        try go_frame
        refine wpAnyH_done (by kernel_rfl) ?_ _
        clear hHeld
        obtain ⟨h0, h1⟩ := HS.out
        have f1 : wr.drew.frozen? ⟨b, 1, none⟩ = false := HR.out.drew.froz 1
        go_wp2_with fail
        go_roundg (r.s.size - (p + 1))
        case measure => omega
        case rel => exact ⟨p + 1, by omega, by omega, rfl, HR.out.drew.pos (p + 1), HIN, grown_twice (grown_drew hg.out) (Lib.grownBy_setCell _ b 1 _)⟩
      by_cases hx10 : x = 10
      · subst hx10
        rw [if_pos (by decide)] at hin'
        have HIN : Hid (p + 1 + skipL (r.s.data.toList.drop (p + 1)) = r.pos + n) := by show _ = _; rw [← hin']; omega
        clear hin' hx32 hx9
        go_wp2_with fail
        refine wp_region_held_drew (S := fun w' => w'.cell? ⟨b, 0, none⟩ = some (.string r.s) ∧ w'.cell? ⟨b, 1, none⟩ = some (.int .i64 p)) (by kernel_rfl) HS.out (fun hHeld => ?_)
        refine tk (oi := ⟨_, _, _, _, _, _⟩) (v := ?_) 0 rfl (by kernel_rfl) (fun _ _ _ h => h) (.inl ⟨by rfl, ?_⟩) (by assumption) ?_; rotate_left
        · (intro wS hSw; (try dsimp only at hSw); go_simp); all_goals with_reducible rfl
        try go_frame
        refine tk (oi := ⟨_, _, _, _, _, _⟩) (v := ?_) 1 rfl (by kernel_rfl) (fun _ _ _ h => h) (.inl ⟨by rfl, ?_⟩) (by assumption) ?_; rotate_left
        · (intro wS hSw; (try dsimp only at hSw); go_simp); all_goals with_reducible rfl
        try go_frame
        refine tk (oi := ⟨_, _, _, _, _, _⟩) (v := ?_) 2 rfl (by kernel_rfl) (fun _ _ _ h => h) (.inl ⟨by rfl, ?_⟩) (by assumption) ?_; rotate_left
        · (intro wS hSw; (try dsimp only at hSw); go_simp); all_goals with_reducible rfl
        try go_frame
        refine tk (oi := ⟨_, _, _, _, _, _⟩) (v := ?_) 3 rfl (by kernel_rfl) (fun _ _ _ h => h) (.inl ⟨by rfl, ?_⟩) (by assumption) ?_; rotate_left
        · (intro wS hSw; (try dsimp only at hSw); go_simp); all_goals with_reducible rfl
        try go_frame
        refine tk (oi := ⟨_, _, _, _, _, _⟩) (v := ?_) 4 rfl (by kernel_rfl) (fun _ _ _ h => h) (.inl ⟨by rfl, ?_⟩) (by assumption) ?_; rotate_left
        · (intro wS hSw; (try dsimp only at hSw); go_simp); all_goals with_reducible rfl
        try go_frame
        refine tk (oi := ⟨_, _, _, _, _, _⟩) (v := ?_) 5 rfl (by kernel_rfl) (fun _ _ _ h => h) (.inl ⟨by rfl, ?_⟩) (by assumption) ?_; rotate_left
        · (intro wS hSw; (try dsimp only at hSw); go_simp); all_goals with_reducible rfl
        try go_frame
        refine tk (oi := ⟨_, _, _, _, _, _⟩) (v := ?_) 6 rfl (by kernel_rfl) (fun _ _ _ h => h) (.inl ⟨by rfl, ?_⟩) (by assumption) ?_; rotate_left
        · (intro wS hSw; (try dsimp only at hSw); go_simp); all_goals with_reducible rfl
        try go_frame
        refine tk (oi := ⟨_, _, _, _, _, _⟩) (v := ?_) 7 rfl (by kernel_rfl) (fun _ _ _ h => h) (.inl ⟨by rfl, ?_⟩) (by assumption) ?_; rotate_left
        · (intro wS hSw; (try dsimp only at hSw); go_simp); all_goals with_reducible rfl
        try go_frame
        refine tk (oi := ⟨_, _, _, _, _, _⟩) (v := ?_) 8 rfl (by kernel_rfl) (fun _ _ _ h => h) (.inl ⟨by rfl, ?_⟩) (by assumption) ?_; rotate_left
        · (intro wS hSw; (try dsimp only at hSw); go_simp); all_goals with_reducible rfl
        try go_frame
        refine tk (oi := ⟨_, _, _, _, _, _⟩) (v := ?_) 9 rfl (by kernel_rfl) (fun _ _ _ h => h) (.inl ⟨by rfl, ?_⟩) (by assumption) ?_; rotate_left
        · (intro wS hSw; (try dsimp only at hSw); go_simp); all_goals with_reducible rfl
        try go_frame
        refine tk (oi := ⟨_, _, _, _, _, _⟩) (v := ?_) 10 rfl (by kernel_rfl) (fun _ _ _ h => h) (.inl ⟨by rfl, ?_⟩) (by assumption) ?_; rotate_left
        · (intro wS hSw; (try dsimp only at hSw); go_simp); all_goals with_reducible rfl
        try go_frame
        refine tk (oi := ⟨_, _, _, _, _, _⟩) (v := ?_) 11 rfl (by kernel_rfl) (fun _ _ _ h => h) (.inl ⟨by rfl, ?_⟩) (by assumption) ?_; rotate_left
        · (intro wS hSw; (try dsimp only at hSw); go_simp); all_goals with_reducible rfl
        try go_frame
        refine tk (oi := ⟨_, _, _, _, _, _⟩) (v := ?_) 12 rfl (by kernel_rfl) (fun _ _ _ h => h) (.inl ⟨by rfl, ?_⟩) (by assumption) ?_; rotate_left
        · (intro wS hSw; (try dsimp only at hSw); go_simp); all_goals with_reducible rfl
        try go_frame
        refine tk (oi := ⟨_, _, _, _, _, _⟩) (v := ?_) 13 rfl (by kernel_rfl) (fun _ _ _ h => h) (.inl ⟨by rfl, ?_⟩) (by assumption) ?_; rotate_left
        · (intro wS hSw; (try dsimp only at hSw); go_simp); all_goals with_reducible rfl
        try go_frame
        refine tk (oi := ⟨_, _, _, _, _, _⟩) (v := ?_) 14 rfl (by kernel_rfl) (fun _ _ _ h => h) (.inl ⟨by rfl, ?_⟩) (by assumption) ?_; rotate_left
        · (intro wS hSw; (try dsimp only at hSw); go_simp); all_goals with_reducible rfl
        try go_frame
        refine tk (oi := ⟨_, _, _, _, _, _⟩) (v := ?_) 15 rfl (by kernel_rfl) (fun _ _ _ h => h) (.inl ⟨by rfl, ?_⟩) (by assumption) ?_; rotate_left
        · (intro wS hSw; (try dsimp only at hSw); go_simp); all_goals with_reducible rfl
        try go_frame
        refine tk (oi := ⟨_, _, _, _, _, _⟩) (v := ?_) 16 rfl (by kernel_rfl) (fun _ _ _ h => h) (.inl ⟨by rfl, ?_⟩) (by assumption) ?_; rotate_left
        · (intro wS hSw; (try dsimp only at hSw); go_simp); all_goals with_reducible rfl
        try go_frame
        refine tk (oi := ⟨_, _, _, _, _, _⟩) (v := ?_) 17 rfl (by kernel_rfl) (fun _ _ _ h => h) (.inl ⟨by rfl, ?_⟩) (by assumption) ?_; rotate_left
        · (intro wS hSw; (try dsimp only at hSw); go_simp); all_goals with_reducible rfl
        try go_frame
        refine tk (oi := ⟨_, _, _, _, _, _⟩) (v := ?_) 18 rfl (by kernel_rfl) (fun _ _ _ h => h) (.inl ⟨by rfl, ?_⟩) (by assumption) ?_; rotate_left
        · (intro wS hSw; (try dsimp only at hSw); go_simp); all_goals with_reducible rfl
        try go_frame
        refine tk (oi := ⟨_, _, _, _, _, _⟩) (v := ?_) 19 rfl (by kernel_rfl) (fun _ _ _ h => h) (.inl ⟨by rfl, ?_⟩) (by assumption) ?_; rotate_left
        · (intro wS hSw; (try dsimp only at hSw); go_simp); all_goals with_reducible rfl
        try go_frame
        refine tk (oi := ⟨_, _, _, _, _, _⟩) (v := ?_) 20 rfl (by kernel_rfl) (fun _ _ _ h => h) (.inl ⟨by rfl, ?_⟩) (by assumption) ?_; rotate_left
        · (intro wS hSw; (try dsimp only at hSw); go_simp); all_goals with_reducible rfl
        try go_frame
        refine tk (oi := ⟨_, _, _, _, _, _⟩) (v := ?_) 21 rfl (by kernel_rfl) (fun _ _ _ h => h) (.inl ⟨by rfl, ?_⟩) (by assumption) ?_; rotate_left
        · (intro wS hSw; (try dsimp only at hSw); go_simp); all_goals with_reducible rfl
        try go_frame
        refine tk (oi := ⟨_, _, _, _, _, _⟩) (v := ?_) 22 rfl (by kernel_rfl) (fun _ _ _ h => h) (.inl ⟨by rfl, ?_⟩) (by assumption) ?_; rotate_left
        · (intro wS hSw; (try dsimp only at hSw); go_simp); all_goals with_reducible rfl
        try go_frame
        refine tk (oi := ⟨_, _, _, _, _, _⟩) (v := ?_) 23 rfl (by kernel_rfl) (fun _ _ _ h => h) (.inl ⟨by rfl, ?_⟩) (by assumption) ?_; rotate_left
        · (intro wS hSw; (try dsimp only at hSw); go_simp); all_goals with_reducible rfl
        try go_frame
        refine tk (oi := ⟨_, _, _, _, _, _⟩) (v := ?_) 24 rfl (by kernel_rfl) (fun _ _ _ h => h) (.inl ⟨by rfl, ?_⟩) (by assumption) ?_; rotate_left
        · (intro wS hSw; (try dsimp only at hSw); go_simp); all_goals with_reducible rfl
        try go_frame
        refine tk (oi := ⟨_, _, _, _, _, _⟩) (v := ?_) 25 rfl (by kernel_rfl) (fun _ _ _ h => h) (.inl ⟨by rfl, ?_⟩) (by assumption) ?_; rotate_left
        · (intro wS hSw; (try dsimp only at hSw); go_simp); all_goals with_reducible rfl
        try go_frame
        refine tk (oi := ⟨_, _, _, _, _, _⟩) (v := ?_) 26 rfl (by kernel_rfl) (fun _ _ _ h => h) (.inl ⟨by rfl, ?_⟩) (by assumption) ?_; rotate_left
        · (intro wS hSw; (try dsimp only at hSw); go_simp); all_goals with_reducible rfl
        try go_frame
        refine tk (oi := ⟨_, _, _, _, _, _⟩) (v := ?_) 27 rfl (by kernel_rfl) (fun _ _ _ h => h) (.inl ⟨by rfl, ?_⟩) (by assumption) ?_; rotate_left
        · (intro wS hSw; (try dsimp only at hSw); go_simp); all_goals with_reducible rfl
        try go_frame
        refine tk (oi := ⟨_, _, _, _, _, _⟩) (v := ?_) 28 rfl (by kernel_rfl) (fun _ _ _ h => h) (.inl ⟨by rfl, ?_⟩) (by assumption) ?_; rotate_left
        · (intro wS hSw; (try dsimp only at hSw); go_simp); all_goals with_reducible rfl
        try go_frame
        refine tk (oi := ⟨_, _, _, _, _, _⟩) (v := ?_) 29 rfl (by kernel_rfl) (fun _ _ _ h => h) (.inl ⟨by rfl, ?_⟩) (by assumption) ?_; rotate_left
        · (intro wS hSw; (try dsimp only at hSw); go_simp); all_goals with_reducible rfl
        try go_frame
        refine tk (oi := ⟨_, _, _, _, _, _⟩) (v := ?_) 30 rfl (by kernel_rfl) (fun _ _ _ h => h) (.inl ⟨by rfl, ?_⟩) (by assumption) ?_; rotate_left
        · (intro wS hSw; (try dsimp only at hSw); go_simp); all_goals with_reducible rfl
        try go_frame
        refine tk (oi := ⟨_, _, _, _, _, _⟩) (v := ?_) 31 rfl (by kernel_rfl) (fun _ _ _ h => h) (.inl ⟨by rfl, ?_⟩) (by assumption) ?_; rotate_left
        · (intro wS hSw; (try dsimp only at hSw); go_simp); all_goals with_reducible rfl
        try go_frame
        refine tk (oi := ⟨_, _, _, _, _, _⟩) (v := ?_) 32 rfl (by kernel_rfl) (fun _ _ _ h => h) (.inl ⟨by rfl, ?_⟩) (by assumption) ?_; rotate_left
        · (intro wS hSw; (try dsimp only at hSw); go_simp); all_goals with_reducible rfl
        try go_frame
        refine tk (oi := ⟨_, _, _, _, _, _⟩) (v := ?_) 33 rfl (by kernel_rfl) (fun _ _ _ h => h) (.inl ⟨by rfl, ?_⟩) (by assumption) ?_; rotate_left
        · (intro wS hSw; (try dsimp only at hSw); go_simp); all_goals with_reducible rfl
        try go_frame
        refine tk (oi := ⟨_, _, _, _, _, _⟩) (v := ?_) 34 rfl (by kernel_rfl) (fun _ _ _ h => h) (.inl ⟨by rfl, ?_⟩) (by assumption) ?_; rotate_left
        · (intro wS hSw; (try dsimp only at hSw); go_simp); all_goals with_reducible rfl
        try go_frame
        refine tk (oi := ⟨_, _, _, _, _, _⟩) (v := ?_) 35 rfl (by kernel_rfl) (fun _ _ _ h => h) (.inl ⟨by rfl, ?_⟩) (by assumption) ?_; rotate_left
        · (intro wS hSw; (try dsimp only at hSw); go_simp); all_goals with_reducible rfl
        try go_frame
        refine tk (oi := ⟨_, _, _, _, _, _⟩) (v := ?_) 36 rfl (by kernel_rfl) (fun _ _ _ h => h) (.inl ⟨by rfl, ?_⟩) (by assumption) ?_; rotate_left
        · (intro wS hSw; (try dsimp only at hSw); go_simp); all_goals with_reducible rfl
        try go_frame
        refine tk (oi := ⟨_, _, _, _, _, _⟩) (v := ?_) 37 rfl (by kernel_rfl) (fun _ _ _ h => h) (.inl ⟨by rfl, ?_⟩) (by assumption) ?_; rotate_left
        · (intro wS hSw; (try dsimp only at hSw); go_simp); all_goals with_reducible rfl
        try go_frame
        refine tk (oi := ⟨_, _, _, _, _, _⟩) (v := ?_) 38 rfl (by kernel_rfl) (fun _ _ _ h => h) (.inl ⟨by rfl, ?_⟩) (by assumption) ?_; rotate_left
        · (intro wS hSw; (try dsimp only at hSw); go_simp); all_goals with_reducible rfl
        try go_frame
        refine tk (oi := ⟨_, _, _, _, _, _⟩) (v := ?_) 39 rfl (by kernel_rfl) (fun _ _ _ h => h) (.inl ⟨by rfl, ?_⟩) (by assumption) ?_; rotate_left
        · (intro wS hSw; (try dsimp only at hSw); go_simp); all_goals with_reducible rfl
        try go_frame
        refine tk (oi := ⟨_, _, _, _, _, _⟩) (v := ?_) 40 rfl (by kernel_rfl) (fun _ _ _ h => h) (.inl ⟨by rfl, ?_⟩) (by assumption) ?_; rotate_left
        · (intro wS hSw; (try dsimp only at hSw); go_simp); all_goals with_reducible rfl
        try go_frame
        refine tk (oi := ⟨_, _, _, _, _, _⟩) (v := ?_) 41 rfl (by kernel_rfl) (fun _ _ _ h => h) (.inl ⟨by rfl, ?_⟩) (by assumption) ?_; rotate_left
        · (intro wS hSw; (try dsimp only at hSw); go_simp); all_goals with_reducible rfl
        try go_frame
        refine tk (oi := ⟨_, _, _, _, _, _⟩) (v := ?_) 42 rfl (by kernel_rfl) (fun _ _ _ h => h) (.inl ⟨by rfl, ?_⟩) (by assumption) ?_; rotate_left
        · (intro wS hSw; (try dsimp only at hSw); go_simp); all_goals with_reducible rfl
        try go_frame
        refine tk (oi := ⟨_, _, _, _, _, _⟩) (v := ?_) 43 rfl (by kernel_rfl) (fun _ _ _ h => h) (.inl ⟨by rfl, ?_⟩) (by assumption) ?_; rotate_left
        · (intro wS hSw; (try dsimp only at hSw); go_simp); all_goals with_reducible rfl
        try go_frame
        refine tk (oi := ⟨_, _, _, _, _, _⟩) (v := ?_) 44 rfl (by kernel_rfl) (fun _ _ _ h => h) (.inl ⟨by rfl, ?_⟩) (by assumption) ?_; rotate_left
        · (intro wS hSw; (try dsimp only at hSw); go_simp); all_goals with_reducible rfl
        try go_frame
        refine tk (oi := ⟨_, _, _, _, _, _⟩) (v := ?_) 45 rfl (by kernel_rfl) (fun _ _ _ h => h) (.inl ⟨by rfl, ?_⟩) (by assumption) ?_; rotate_left
        · (intro wS hSw; (try dsimp only at hSw); go_simp); all_goals with_reducible rfl
        try go_frame
        refine wpAnyH_done (by kernel_rfl) ?_ _
        clear hHeld
        obtain ⟨h0, h1⟩ := HS.out
        have f1 : wr.drew.frozen? ⟨b, 1, none⟩ = false := HR.out.drew.froz 1
        go_wp2_with fail
        go_roundg (r.s.size - (p + 1))
        case measure => omega
        case rel => exact ⟨p + 1, by omega, by omega, rfl, HR.out.drew.pos (p + 1), HIN, grown_twice (grown_drew hg.out) (Lib.grownBy_setCell _ b 1 _)⟩
      have hbx : blankB x = false := by simp [blankB, hx32, hx9, hx10]
      rw [hbx] at hin'
      have HIN : Hid (p = r.pos + n) := hin'
      have e32 : ((x.toNat : Int) == 32) = false := u8_ne hx32
      have e9 : ((x.toNat : Int) == 9) = false := u8_ne hx9
      have e10 : ((x.toNat : Int) == 10) = false := u8_ne hx10
      clear hin' hx32 hx9 hx10 hbx
      go_wp2_with fail
      refine wp_region_held_drew (S := fun w' => w'.cell? ⟨b, 0, none⟩ = some (.string r.s) ∧ w'.cell? ⟨b, 1, none⟩ = some (.int .i64 p)) (by kernel_rfl) HS.out (fun hHeld => ?_)
      refine tk (oi := ⟨_, _, _, _, _, _⟩) (v := ?_) 0 rfl (by kernel_rfl) (fun _ _ _ h => h) (.inl ⟨by rfl, ?_⟩) (by assumption) ?_; rotate_left
      · (intro wS hSw; (try dsimp only at hSw); go_simp); all_goals with_reducible rfl
      try go_frame
      refine tk (oi := ⟨_, _, _, _, _, _⟩) (v := ?_) 1 rfl (by kernel_rfl) (fun _ _ _ h => h) (.inl ⟨by rfl, ?_⟩) (by assumption) ?_; rotate_left
      · (intro wS hSw; (try dsimp only at hSw); go_simp); all_goals with_reducible rfl
      try go_frame
      refine tk (oi := ⟨_, _, _, _, _, _⟩) (v := ?_) 2 rfl (by kernel_rfl) (fun _ _ _ h => h) (.inl ⟨by rfl, ?_⟩) (by assumption) ?_; rotate_left
      · (intro wS hSw; (try dsimp only at hSw); go_simp); all_goals with_reducible rfl
      try go_frame
      refine tk (oi := ⟨_, _, _, _, _, _⟩) (v := ?_) 3 rfl (by kernel_rfl) (fun _ _ _ h => h) (.inl ⟨by rfl, ?_⟩) (by assumption) ?_; rotate_left
      · (intro wS hSw; (try dsimp only at hSw); go_simp); all_goals with_reducible rfl
      try go_frame
      refine tk (oi := ⟨_, _, _, _, _, _⟩) (v := ?_) 4 rfl (by kernel_rfl) (fun _ _ _ h => h) (.inl ⟨by rfl, ?_⟩) (by assumption) ?_; rotate_left
      · (intro wS hSw; (try dsimp only at hSw); go_simp); all_goals with_reducible rfl
      try go_frame
      refine tk (oi := ⟨_, _, _, _, _, _⟩) (v := ?_) 5 rfl (by kernel_rfl) (fun _ _ _ h => h) (.inl ⟨by rfl, ?_⟩) (by assumption) ?_; rotate_left
      · (intro wS hSw; (try dsimp only at hSw); go_simp); all_goals with_reducible rfl
      try go_frame
      refine tk (oi := ⟨_, _, _, _, _, _⟩) (v := ?_) 6 rfl (by kernel_rfl) (fun _ _ _ h => h) (.inl ⟨by rfl, ?_⟩) (by assumption) ?_; rotate_left
      · (intro wS hSw; (try dsimp only at hSw); go_simp); all_goals with_reducible rfl
      try go_frame
      refine tk (oi := ⟨_, _, _, _, _, _⟩) (v := ?_) 7 rfl (by kernel_rfl) (fun _ _ _ h => h) (.inl ⟨by rfl, ?_⟩) (by assumption) ?_; rotate_left
      · (intro wS hSw; (try dsimp only at hSw); go_simp); all_goals with_reducible rfl
      try go_frame
      refine tk (oi := ⟨_, _, _, _, _, _⟩) (v := ?_) 8 rfl (by kernel_rfl) (fun _ _ _ h => h) (.inl ⟨by rfl, ?_⟩) (by assumption) ?_; rotate_left
      · (intro wS hSw; (try dsimp only at hSw); go_simp); all_goals with_reducible rfl
      try go_frame
      refine tk (oi := ⟨_, _, _, _, _, _⟩) (v := ?_) 9 rfl (by kernel_rfl) (fun _ _ _ h => h) (.inl ⟨by rfl, ?_⟩) (by assumption) ?_; rotate_left
      · (intro wS hSw; (try dsimp only at hSw); go_simp); all_goals with_reducible rfl
      try go_frame
      refine tk (oi := ⟨_, _, _, _, _, _⟩) (v := ?_) 10 rfl (by kernel_rfl) (fun _ _ _ h => h) (.inl ⟨by rfl, ?_⟩) (by assumption) ?_; rotate_left
      · (intro wS hSw; (try dsimp only at hSw); go_simp); all_goals with_reducible rfl
      try go_frame
      refine tk (oi := ⟨_, _, _, _, _, _⟩) (v := ?_) 11 rfl (by kernel_rfl) (fun _ _ _ h => h) (.inl ⟨by rfl, ?_⟩) (by assumption) ?_; rotate_left
      · (intro wS hSw; (try dsimp only at hSw); go_simp); all_goals with_reducible rfl
      try go_frame
      refine tk (oi := ⟨_, _, _, _, _, _⟩) (v := ?_) 12 rfl (by kernel_rfl) (fun _ _ _ h => h) (.inl ⟨by rfl, ?_⟩) (by assumption) ?_; rotate_left
      · (intro wS hSw; (try dsimp only at hSw); go_simp); all_goals with_reducible rfl
      try go_frame
      refine tk (oi := ⟨_, _, _, _, _, _⟩) (v := ?_) 13 rfl (by kernel_rfl) (fun _ _ _ h => h) (.inl ⟨by rfl, ?_⟩) (by assumption) ?_; rotate_left
      · (intro wS hSw; (try dsimp only at hSw); go_simp); all_goals with_reducible rfl
      try go_frame
      refine tk (oi := ⟨_, _, _, _, _, _⟩) (v := ?_) 14 rfl (by kernel_rfl) (fun _ _ _ h => h) (.inl ⟨by rfl, ?_⟩) (by assumption) ?_; rotate_left
      · (intro wS hSw; (try dsimp only at hSw); go_simp); all_goals with_reducible rfl
      try go_frame
      refine tk (oi := ⟨_, _, _, _, _, _⟩) (v := ?_) 15 rfl (by kernel_rfl) (fun _ _ _ h => h) (.inl ⟨by rfl, ?_⟩) (by assumption) ?_; rotate_left
      · (intro wS hSw; (try dsimp only at hSw); go_simp); all_goals with_reducible rfl
      try go_frame
      refine tk (oi := ⟨_, _, _, _, _, _⟩) (v := ?_) 16 rfl (by kernel_rfl) (fun _ _ _ h => h) (.inl ⟨by rfl, ?_⟩) (by assumption) ?_; rotate_left
      · (intro wS hSw; (try dsimp only at hSw); go_simp); all_goals with_reducible rfl
      try go_frame
      refine tk (oi := ⟨_, _, _, _, _, _⟩) (v := ?_) 17 rfl (by kernel_rfl) (fun _ _ _ h => h) (.inl ⟨by rfl, ?_⟩) (by assumption) ?_; rotate_left
      · (intro wS hSw; (try dsimp only at hSw); go_simp); all_goals with_reducible rfl
      try go_frame
      refine tk (oi := ⟨_, _, _, _, _, _⟩) (v := ?_) 18 rfl (by kernel_rfl) (fun _ _ _ h => h) (.inl ⟨by rfl, ?_⟩) (by assumption) ?_; rotate_left
      · (intro wS hSw; (try dsimp only at hSw); go_simp); all_goals with_reducible rfl
      try go_frame
      refine tk (oi := ⟨_, _, _, _, _, _⟩) (v := ?_) 19 rfl (by kernel_rfl) (fun _ _ _ h => h) (.inl ⟨by rfl, ?_⟩) (by assumption) ?_; rotate_left
      · (intro wS hSw; (try dsimp only at hSw); go_simp); all_goals with_reducible rfl
      try go_frame
      refine tk (oi := ⟨_, _, _, _, _, _⟩) (v := ?_) 20 rfl (by kernel_rfl) (fun _ _ _ h => h) (.inl ⟨by rfl, ?_⟩) (by assumption) ?_; rotate_left
      · (intro wS hSw; (try dsimp only at hSw); go_simp); all_goals with_reducible rfl
      try go_frame
      refine tk (oi := ⟨_, _, _, _, _, _⟩) (v := ?_) 21 rfl (by kernel_rfl) (fun _ _ _ h => h) (.inl ⟨by rfl, ?_⟩) (by assumption) ?_; rotate_left
      · (intro wS hSw; (try dsimp only at hSw); go_simp); all_goals with_reducible rfl
      try go_frame
      refine tk (oi := ⟨_, _, _, _, _, _⟩) (v := ?_) 22 rfl (by kernel_rfl) (fun _ _ _ h => h) (.inl ⟨by rfl, ?_⟩) (by assumption) ?_; rotate_left
      · (intro wS hSw; (try dsimp only at hSw); go_simp); all_goals with_reducible rfl
      try go_frame
      refine tk (oi := ⟨_, _, _, _, _, _⟩) (v := ?_) 23 rfl (by kernel_rfl) (fun _ _ _ h => h) (.inl ⟨by rfl, ?_⟩) (by assumption) ?_; rotate_left
      · (intro wS hSw; (try dsimp only at hSw); go_simp); all_goals with_reducible rfl
      try go_frame
      refine tk (oi := ⟨_, _, _, _, _, _⟩) (v := ?_) 24 rfl (by kernel_rfl) (fun _ _ _ h => h) (.inl ⟨by rfl, ?_⟩) (by assumption) ?_; rotate_left
      · (intro wS hSw; (try dsimp only at hSw); go_simp); all_goals with_reducible rfl
      try go_frame
      refine tk (oi := ⟨_, _, _, _, _, _⟩) (v := ?_) 25 rfl (by kernel_rfl) (fun _ _ _ h => h) (.inl ⟨by rfl, ?_⟩) (by assumption) ?_; rotate_left
      · (intro wS hSw; (try dsimp only at hSw); go_simp); all_goals with_reducible rfl
      try go_frame
      refine tk (oi := ⟨_, _, _, _, _, _⟩) (v := ?_) 26 rfl (by kernel_rfl) (fun _ _ _ h => h) (.inl ⟨by rfl, ?_⟩) (by assumption) ?_; rotate_left
      · (intro wS hSw; (try dsimp only at hSw); go_simp); all_goals with_reducible rfl
      try go_frame
      refine tk (oi := ⟨_, _, _, _, _, _⟩) (v := ?_) 27 rfl (by kernel_rfl) (fun _ _ _ h => h) (.inl ⟨by rfl, ?_⟩) (by assumption) ?_; rotate_left
      · (intro wS hSw; (try dsimp only at hSw); go_simp); all_goals with_reducible rfl
      try go_frame
      refine tk (oi := ⟨_, _, _, _, _, _⟩) (v := ?_) 28 rfl (by kernel_rfl) (fun _ _ _ h => h) (.inl ⟨by rfl, ?_⟩) (by assumption) ?_; rotate_left
      · (intro wS hSw; (try dsimp only at hSw); go_simp); all_goals with_reducible rfl
      try go_frame
      refine tk (oi := ⟨_, _, _, _, _, _⟩) (v := ?_) 29 rfl (by kernel_rfl) (fun _ _ _ h => h) (.inl ⟨by rfl, ?_⟩) (by assumption) ?_; rotate_left
      · (intro wS hSw; (try dsimp only at hSw); go_simp); all_goals with_reducible rfl
      try go_frame
      refine tk (oi := ⟨_, _, _, _, _, _⟩) (v := ?_) 30 rfl (by kernel_rfl) (fun _ _ _ h => h) (.inl ⟨by rfl, ?_⟩) (by assumption) ?_; rotate_left
      · (intro wS hSw; (try dsimp only at hSw); go_simp); all_goals with_reducible rfl
      try go_frame
      refine tk (oi := ⟨_, _, _, _, _, _⟩) (v := ?_) 31 rfl (by kernel_rfl) (fun _ _ _ h => h) (.inl ⟨by rfl, ?_⟩) (by assumption) ?_; rotate_left
      · (intro wS hSw; (try dsimp only at hSw); go_simp); all_goals with_reducible rfl
      try go_frame
      refine tk (oi := ⟨_, _, _, _, _, _⟩) (v := ?_) 32 rfl (by kernel_rfl) (fun _ _ _ h => h) (.inl ⟨by rfl, ?_⟩) (by assumption) ?_; rotate_left
      · (intro wS hSw; (try dsimp only at hSw); go_simp); all_goals with_reducible rfl
      try go_frame
      refine tk (oi := ⟨_, _, _, _, _, _⟩) (v := ?_) 33 rfl (by kernel_rfl) (fun _ _ _ h => h) (.inl ⟨by rfl, ?_⟩) (by assumption) ?_; rotate_left
      · (intro wS hSw; (try dsimp only at hSw); go_simp); all_goals with_reducible rfl
      try go_frame
      refine tk (oi := ⟨_, _, _, _, _, _⟩) (v := ?_) 34 rfl (by kernel_rfl) (fun _ _ _ h => h) (.inl ⟨by rfl, ?_⟩) (by assumption) ?_; rotate_left
      · (intro wS hSw; (try dsimp only at hSw); go_simp); all_goals with_reducible rfl
      try go_frame
      refine tk (oi := ⟨_, _, _, _, _, _⟩) (v := ?_) 35 rfl (by kernel_rfl) (fun _ _ _ h => h) (.inl ⟨by rfl, ?_⟩) (by assumption) ?_; rotate_left
      · (intro wS hSw; (try dsimp only at hSw); go_simp); all_goals with_reducible rfl
      try go_frame
      refine tk (oi := ⟨_, _, _, _, _, _⟩) (v := ?_) 36 rfl (by kernel_rfl) (fun _ _ _ h => h) (.inl ⟨by rfl, ?_⟩) (by assumption) ?_; rotate_left
      · (intro wS hSw; (try dsimp only at hSw); go_simp); all_goals with_reducible rfl
      try go_frame
      refine tk (oi := ⟨_, _, _, _, _, _⟩) (v := ?_) 37 rfl (by kernel_rfl) (fun _ _ _ h => h) (.inl ⟨by rfl, ?_⟩) (by assumption) ?_; rotate_left
      · (intro wS hSw; (try dsimp only at hSw); go_simp); all_goals with_reducible rfl
      try go_frame
      refine tk (oi := ⟨_, _, _, _, _, _⟩) (v := ?_) 38 rfl (by kernel_rfl) (fun _ _ _ h => h) (.inl ⟨by rfl, ?_⟩) (by assumption) ?_; rotate_left
      · (intro wS hSw; (try dsimp only at hSw); go_simp); all_goals with_reducible rfl
      try go_frame
      refine tk (oi := ⟨_, _, _, _, _, _⟩) (v := ?_) 39 rfl (by kernel_rfl) (fun _ _ _ h => h) (.inl ⟨by rfl, ?_⟩) (by assumption) ?_; rotate_left
      · (intro wS hSw; (try dsimp only at hSw); go_simp); all_goals with_reducible rfl
      try go_frame
      refine tk (oi := ⟨_, _, _, _, _, _⟩) (v := ?_) 40 rfl (by kernel_rfl) (fun _ _ _ h => h) (.inl ⟨by rfl, ?_⟩) (by assumption) ?_; rotate_left
      · (intro wS hSw; (try dsimp only at hSw); go_simp); all_goals with_reducible rfl
      try go_frame
      refine tk (oi := ⟨_, _, _, _, _, _⟩) (v := ?_) 41 rfl (by kernel_rfl) (fun _ _ _ h => h) (.inl ⟨by rfl, ?_⟩) (by assumption) ?_; rotate_left
      · (intro wS hSw; (try dsimp only at hSw); go_simp); all_goals with_reducible rfl
      try go_frame
      refine tk (oi := ⟨_, _, _, _, _, _⟩) (v := ?_) 42 rfl (by kernel_rfl) (fun _ _ _ h => h) (.inl ⟨by rfl, ?_⟩) (by assumption) ?_; rotate_left
      · (intro wS hSw; (try dsimp only at hSw); go_simp); all_goals with_reducible rfl
      try go_frame
      refine tk (oi := ⟨_, _, _, _, _, _⟩) (v := ?_) 43 rfl (by kernel_rfl) (fun _ _ _ h => h) (.inl ⟨by rfl, ?_⟩) (by assumption) ?_; rotate_left
      · (intro wS hSw; (try dsimp only at hSw); go_simp); all_goals with_reducible rfl
      try go_frame
      refine tk (oi := ⟨_, _, _, _, _, _⟩) (v := ?_) 44 rfl (by kernel_rfl) (fun _ _ _ h => h) (.inl ⟨by rfl, ?_⟩) (by assumption) ?_; rotate_left
      · (intro wS hSw; (try dsimp only at hSw); go_simp); all_goals with_reducible rfl
      try go_frame
      refine tk (oi := ⟨_, _, _, _, _, _⟩) (v := ?_) 45 rfl (by kernel_rfl) (fun _ _ _ h => h) (.inl ⟨by rfl, ?_⟩) (by assumption) ?_; rotate_left
      · (intro wS hSw; (try dsimp only at hSw); go_simp); all_goals with_reducible rfl
      try go_frame
      refine wpAnyH_done (by kernel_rfl) ?_ _
      clear hHeld
      obtain ⟨h0, h1⟩ := HS.out
      go_wp2_with fail
      go_ret
      refine ⟨?_, ?_, grown_drew hg.out⟩
      · have := HIN.out
        simp
        omega
      · have := HR.out.drew
        rw [show r.pos + n = p from by have := HIN.out; omega]; exact this
    · have HIN : Hid (p = r.pos + n) := by
        show _ = _
        rw [← hin.out, List.drop_eq_nil_of_le (by have := HL.out; omega)]; rfl
      have t3 : decide ((p : Int) < r.s.size) = false := by simp; omega
      have t4 : decide (p < r.s.size) = false := by simp; omega
      clear hin
      go_wp2_with fail
      refine wp_region_held_drew (S := fun w' => w'.cell? ⟨b, 0, none⟩ = some (.string r.s) ∧ w'.cell? ⟨b, 1, none⟩ = some (.int .i64 p)) (by kernel_rfl) HS.out (fun hHeld => ?_)
      refine tk (oi := ⟨_, _, _, _, _, _⟩) (v := ?_) 0 rfl (by kernel_rfl) (fun _ _ _ h => h) (.inl ⟨by rfl, ?_⟩) (by assumption) ?_; rotate_left
      · (intro wS hSw; (try dsimp only at hSw); go_simp); all_goals with_reducible rfl
      try go_frame
      refine tk (oi := ⟨_, _, _, _, _, _⟩) (v := ?_) 1 rfl (by kernel_rfl) (fun _ _ _ h => h) (.inl ⟨by rfl, ?_⟩) (by assumption) ?_; rotate_left
      · (intro wS hSw; (try dsimp only at hSw); go_simp); all_goals with_reducible rfl
      try go_frame
      refine tk (oi := ⟨_, _, _, _, _, _⟩) (v := ?_) 2 rfl (by kernel_rfl) (fun _ _ _ h => h) (.inl ⟨by rfl, ?_⟩) (by assumption) ?_; rotate_left
      · (intro wS hSw; (try dsimp only at hSw); go_simp); all_goals with_reducible rfl
      try go_frame
      refine tk (oi := ⟨_, _, _, _, _, _⟩) (v := ?_) 3 rfl (by kernel_rfl) (fun _ _ _ h => h) (.inl ⟨by rfl, ?_⟩) (by assumption) ?_; rotate_left
      · (intro wS hSw; (try dsimp only at hSw); go_simp); all_goals with_reducible rfl
      try go_frame
      refine tk (oi := ⟨_, _, _, _, _, _⟩) (v := ?_) 4 rfl (by kernel_rfl) (fun _ _ _ h => h) (.inl ⟨by rfl, ?_⟩) (by assumption) ?_; rotate_left
      · (intro wS hSw; (try dsimp only at hSw); go_simp); all_goals with_reducible rfl
      try go_frame
      refine tk (oi := ⟨_, _, _, _, _, _⟩) (v := ?_) 5 rfl (by kernel_rfl) (fun _ _ _ h => h) (.inl ⟨by rfl, ?_⟩) (by assumption) ?_; rotate_left
      · (intro wS hSw; (try dsimp only at hSw); go_simp); all_goals with_reducible rfl
      try go_frame
      refine tk (oi := ⟨_, _, _, _, _, _⟩) (v := ?_) 6 rfl (by kernel_rfl) (fun _ _ _ h => h) (.inl ⟨by rfl, ?_⟩) (by assumption) ?_; rotate_left
      · (intro wS hSw; (try dsimp only at hSw); go_simp); all_goals with_reducible rfl
      try go_frame
      refine tk (oi := ⟨_, _, _, _, _, _⟩) (v := ?_) 7 rfl (by kernel_rfl) (fun _ _ _ h => h) (.inl ⟨by rfl, ?_⟩) (by assumption) ?_; rotate_left
      · (intro wS hSw; (try dsimp only at hSw); go_simp); all_goals with_reducible rfl
      try go_frame
      refine tk (oi := ⟨_, _, _, _, _, _⟩) (v := ?_) 8 rfl (by kernel_rfl) (fun _ _ _ h => h) (.inl ⟨by rfl, ?_⟩) (by assumption) ?_; rotate_left
      · (intro wS hSw; (try dsimp only at hSw); go_simp); all_goals with_reducible rfl
      try go_frame
      refine tk (oi := ⟨_, _, _, _, _, _⟩) (v := ?_) 9 rfl (by kernel_rfl) (fun _ _ _ h => h) (.inl ⟨by rfl, ?_⟩) (by assumption) ?_; rotate_left
      · (intro wS hSw; (try dsimp only at hSw); go_simp); all_goals with_reducible rfl
      try go_frame
      refine tk (oi := ⟨_, _, _, _, _, _⟩) (v := ?_) 10 rfl (by kernel_rfl) (fun _ _ _ h => h) (.inl ⟨by rfl, ?_⟩) (by assumption) ?_; rotate_left
      · (intro wS hSw; (try dsimp only at hSw); go_simp); all_goals with_reducible rfl
      try go_frame
      refine tk (oi := ⟨_, _, _, _, _, _⟩) (v := undef) 11 rfl (by kernel_rfl) (fun _ _ _ h => h) (.inr ⟨by rfl, rfl⟩) (by assumption) ?_
      try go_frame
      refine tk (oi := ⟨_, _, _, _, _, _⟩) (v := undef) 12 rfl (by kernel_rfl) (fun _ _ _ h => h) (.inr ⟨by rfl, rfl⟩) (by assumption) ?_
      try go_frame
      refine tk (oi := ⟨_, _, _, _, _, _⟩) (v := undef) 13 rfl (by kernel_rfl) (fun _ _ _ h => h) (.inr ⟨by rfl, rfl⟩) (by assumption) ?_
      try go_frame
      refine tk (oi := ⟨_, _, _, _, _, _⟩) (v := undef) 14 rfl (by kernel_rfl) (fun _ _ _ h => h) (.inr ⟨by rfl, rfl⟩) (by assumption) ?_
      try go_frame
      refine tk (oi := ⟨_, _, _, _, _, _⟩) (v := undef) 15 rfl (by kernel_rfl) (fun _ _ _ h => h) (.inr ⟨by rfl, rfl⟩) (by assumption) ?_
      try go_frame
      refine tk (oi := ⟨_, _, _, _, _, _⟩) (v := undef) 16 rfl (by kernel_rfl) (fun _ _ _ h => h) (.inr ⟨by rfl, rfl⟩) (by assumption) ?_
      try go_frame
      refine tk (oi := ⟨_, _, _, _, _, _⟩) (v := undef) 17 rfl (by kernel_rfl) (fun _ _ _ h => h) (.inr ⟨by rfl, rfl⟩) (by assumption) ?_
      try go_frame
      refine tk (oi := ⟨_, _, _, _, _, _⟩) (v := undef) 18 rfl (by kernel_rfl) (fun _ _ _ h => h) (.inr ⟨by rfl, rfl⟩) (by assumption) ?_
      try go_frame
      refine tk (oi := ⟨_, _, _, _, _, _⟩) (v := undef) 19 rfl (by kernel_rfl) (fun _ _ _ h => h) (.inr ⟨by rfl, rfl⟩) (by assumption) ?_
      try go_frame
      refine tk (oi := ⟨_, _, _, _, _, _⟩) (v := undef) 20 rfl (by kernel_rfl) (fun _ _ _ h => h) (.inr ⟨by rfl, rfl⟩) (by assumption) ?_
      try go_frame
      refine tk (oi := ⟨_, _, _, _, _, _⟩) (v := undef) 21 rfl (by kernel_rfl) (fun _ _ _ h => h) (.inr ⟨by rfl, rfl⟩) (by assumption) ?_
      try go_frame
      refine tk (oi := ⟨_, _, _, _, _, _⟩) (v := undef) 22 rfl (by kernel_rfl) (fun _ _ _ h => h) (.inr ⟨by rfl, rfl⟩) (by assumption) ?_
      try go_frame
      refine tk (oi := ⟨_, _, _, _, _, _⟩) (v := undef) 23 rfl (by kernel_rfl) (fun _ _ _ h => h) (.inr ⟨by rfl, rfl⟩) (by assumption) ?_
      try go_frame
      refine tk (oi := ⟨_, _, _, _, _, _⟩) (v := undef) 24 rfl (by kernel_rfl) (fun _ _ _ h => h) (.inr ⟨by rfl, rfl⟩) (by assumption) ?_
      try go_frame
      refine tk (oi := ⟨_, _, _, _, _, _⟩) (v := undef) 25 rfl (by kernel_rfl) (fun _ _ _ h => h) (.inr ⟨by rfl, rfl⟩) (by assumption) ?_
      try go_frame
      refine tk (oi := ⟨_, _, _, _, _, _⟩) (v := undef) 26 rfl (by kernel_rfl) (fun _ _ _ h => h) (.inr ⟨by rfl, rfl⟩) (by assumption) ?_
      try go_frame
      refine tk (oi := ⟨_, _, _, _, _, _⟩) (v := undef) 27 rfl (by kernel_rfl) (fun _ _ _ h => h) (.inr ⟨by rfl, rfl⟩) (by assumption) ?_
      try go_frame
      refine tk (oi := ⟨_, _, _, _, _, _⟩) (v := undef) 28 rfl (by kernel_rfl) (fun _ _ _ h => h) (.inr ⟨by rfl, rfl⟩) (by assumption) ?_
      try go_frame
      refine tk (oi := ⟨_, _, _, _, _, _⟩) (v := undef) 29 rfl (by kernel_rfl) (fun _ _ _ h => h) (.inr ⟨by rfl, rfl⟩) (by assumption) ?_
      try go_frame
      refine tk (oi := ⟨_, _, _, _, _, _⟩) (v := undef) 30 rfl (by kernel_rfl) (fun _ _ _ h => h) (.inr ⟨by rfl, rfl⟩) (by assumption) ?_
      try go_frame
      refine tk (oi := ⟨_, _, _, _, _, _⟩) (v := undef) 31 rfl (by kernel_rfl) (fun _ _ _ h => h) (.inr ⟨by rfl, rfl⟩) (by assumption) ?_
      try go_frame
      refine tk (oi := ⟨_, _, _, _, _, _⟩) (v := undef) 32 rfl (by kernel_rfl) (fun _ _ _ h => h) (.inr ⟨by rfl, rfl⟩) (by assumption) ?_
      try go_frame
      refine tk (oi := ⟨_, _, _, _, _, _⟩) (v := undef) 33 rfl (by kernel_rfl) (fun _ _ _ h => h) (.inr ⟨by rfl, rfl⟩) (by assumption) ?_
      try go_frame
      refine tk (oi := ⟨_, _, _, _, _, _⟩) (v := undef) 34 rfl (by kernel_rfl) (fun _ _ _ h => h) (.inr ⟨by rfl, rfl⟩) (by assumption) ?_
      try go_frame
      refine tk (oi := ⟨_, _, _, _, _, _⟩) (v := undef) 35 rfl (by kernel_rfl) (fun _ _ _ h => h) (.inr ⟨by rfl, rfl⟩) (by assumption) ?_
      try go_frame
      refine tk (oi := ⟨_, _, _, _, _, _⟩) (v := undef) 36 rfl (by kernel_rfl) (fun _ _ _ h => h) (.inr ⟨by rfl, rfl⟩) (by assumption) ?_
      try go_frame
      refine tk (oi := ⟨_, _, _, _, _, _⟩) (v := undef) 37 rfl (by kernel_rfl) (fun _ _ _ h => h) (.inr ⟨by rfl, rfl⟩) (by assumption) ?_
      try go_frame
      refine tk (oi := ⟨_, _, _, _, _, _⟩) (v := undef) 38 rfl (by kernel_rfl) (fun _ _ _ h => h) (.inr ⟨by rfl, rfl⟩) (by assumption) ?_
      try go_frame
      refine tk (oi := ⟨_, _, _, _, _, _⟩) (v := undef) 39 rfl (by kernel_rfl) (fun _ _ _ h => h) (.inr ⟨by rfl, rfl⟩) (by assumption) ?_
      try go_frame
      refine tk (oi := ⟨_, _, _, _, _, _⟩) (v := undef) 40 rfl (by kernel_rfl) (fun _ _ _ h => h) (.inr ⟨by rfl, rfl⟩) (by assumption) ?_
      try go_frame
      refine tk (oi := ⟨_, _, _, _, _, _⟩) (v := undef) 41 rfl (by kernel_rfl) (fun _ _ _ h => h) (.inr ⟨by rfl, rfl⟩) (by assumption) ?_
      try go_frame
      refine tk (oi := ⟨_, _, _, _, _, _⟩) (v := undef) 42 rfl (by kernel_rfl) (fun _ _ _ h => h) (.inr ⟨by rfl, rfl⟩) (by assumption) ?_
      try go_frame
      refine tk (oi := ⟨_, _, _, _, _, _⟩) (v := undef) 43 rfl (by kernel_rfl) (fun _ _ _ h => h) (.inr ⟨by rfl, rfl⟩) (by assumption) ?_
      try go_frame
      refine tk (oi := ⟨_, _, _, _, _, _⟩) (v := undef) 44 rfl (by kernel_rfl) (fun _ _ _ h => h) (.inr ⟨by rfl, rfl⟩) (by assumption) ?_
      try go_frame
      refine tk (oi := ⟨_, _, _, _, _, _⟩) (v := ?_) 45 rfl (by kernel_rfl) (fun _ _ _ h => h) (.inl ⟨by rfl, ?_⟩) (by assumption) ?_; rotate_left
      · (intro wS hSw; (try dsimp only at hSw); go_simp); all_goals with_reducible rfl
      try go_frame
      refine wpAnyH_done (by kernel_rfl) ?_ _
      clear hHeld
      obtain ⟨h0, h1⟩ := HS.out
      go_wp2_with fail
      go_ret
      refine ⟨?_, ?_, grown_drew hg.out⟩
      · have := HIN.out
        simp
        omega
      · have := HR.out.drew
        rw [show r.pos + n = p from by have := HIN.out; omega]; exact this

theorem stop_idx (x : UInt8) : decide (Lib.indexByte [32, 9, 10, 61, 62, 60, 47, 34] x < 0) = nb x := by
  by_cases h1 : x = 32
  · subst h1; decide
  by_cases h2 : x = 9
  · subst h2; decide
  by_cases h3 : x = 10
  · subst h3; decide
  by_cases h4 : x = 61
  · subst h4; decide
  by_cases h5 : x = 62
  · subst h5; decide
  by_cases h6 : x = 60
  · subst h6; decide
  by_cases h7 : x = 47
  · subst h7; decide
  by_cases h8 : x = 34
  · subst h8; decide
  simp [Lib.indexByte, nb, h1, h2, h3, h4, h5, h6, h7, h8, Ne.symm h1, Ne.symm h2, Ne.symm h3, Ne.symm h4, Ne.symm h5, Ne.symm h6, Ne.symm h7, Ne.symm h8]

theorem ba_list (s : ByteArray) : s = ⟨s.data.toList.toArray⟩ := by simp
theorem u8_back (x : UInt8) : ((x.toNat : Int)).toNat.toUInt8 = x := by simp

def WordInv (w : World) (b : Nat) (r : Rdr) (n : List UInt8) (g : Nat) (wr : World) : Prop :=
  ∃ p : Nat, r.pos ≤ p ∧ p ≤ r.s.size ∧ g = r.s.size - p ∧ Hid (RdAt wr b { r with pos := p }) ∧ Hid (p + (wordL (r.s.data.toList.drop p)).length = r.pos + n.length) ∧ Hid (w.grownBy wr (some b))




set_option maxRecDepth 100000 in
set_option maxHeartbeats 4000000 in
theorem word_any (b : Nat) (r : Rdr) (w : World) (h : RdAt w b r) (hp : r.pos ≤ r.s.size) (hs : r.s.size ≤ 1000000000) (n : List UInt8) (hn : Hid (wordL (r.s.data.toList.drop r.pos) = n)) (v : Bool) (hv : Hid (nameL n = v)) (R : Rdr) (hR : Hid ((if v then { r with pos := r.pos + n.length } else { r with pos := r.pos + n.length, bad := r.pos, code := 31 }) = R)) (T : List UInt8) (hT : Hid ((if v then n else []) = T)) :
    Calls Try.prog 70 #[.pointer (some ⟨b, 0, none⟩)] w (RdPost w b R (.tuple #[.string ⟨T.toArray⟩, .bool v])) := by
  have H := Lib.hid h
  obtain ⟨h0, h1, _⟩ := h.all
  have HL := Lib.hid (size_toList r.s)
  clear h
  go_enter Try.func70, Try.ntmps70
  go_wp2_with fail
  clear h0 h1
  go_loopg [] (r.s.size - r.pos) (fun g wr => WordInv w b r n g wr)
  case atStart => exact ⟨r.pos, Nat.le_refl _, hp, rfl, H.out, by show _ = _; rw [hn.out], World.grownBy.refl w _⟩
  case round =>
    obtain ⟨p, hrp, hk, rfl, HR, hin, hg⟩ := hrel
    have HS : Hid (wr.drew.cell? ⟨b, 0, none⟩ = some (.string r.s) ∧ wr.drew.cell? ⟨b, 1, none⟩ = some (.int .i64 p)) := ⟨HR.out.drew.all.1, HR.out.drew.all.2.1⟩
    by_cases hlt : p < r.s.size
    · obtain ⟨x, HX⟩ : ∃ x, Hid (r.s.data.toList[p]? = some x) := ⟨r.s.data.toList[p]'(by have := HL.out; omega), List.getElem?_eq_getElem _⟩
      have hsx : r.s[p] = x := getk_of r.s p x HX.out hlt
      have hin' := hin.out
      rw [drop_cons HX.out, wordL_cons] at hin'
      have j0 : (0 : Int) ≤ (p : Int) := by omega
      have j1 : (p : Int) < r.s.size := by omega
      clear hin
      have hst := stop_idx x
      obtain ⟨q, hq⟩ : ∃ q, Hid (Lib.indexByte [32, 9, 10, 61, 62, 60, 47, 34] x = q) := ⟨_, rfl⟩
      rw [hq.out] at hst
      cases hnb : nb x with
      | true =>
        rw [hnb] at hst hin'
        have HIN : Hid (p + 1 + (wordL (r.s.data.toList.drop (p + 1))).length = r.pos + n.length) := by show _ = _; rw [← hin', if_pos rfl, List.length_cons]; omega
        clear hin' hnb
        go_wp2_with fail
        refine wp_region_held_drew (S := fun w' => w'.cell? ⟨b, 0, none⟩ = some (.string r.s) ∧ w'.cell? ⟨b, 1, none⟩ = some (.int .i64 p)) (by kernel_rfl) HS.out (fun hHeld => ?_)
        refine tk (oi := ⟨_, _, _, _, _, _⟩) (v := ?_) 0 rfl (by kernel_rfl) (fun _ _ _ h => h) (.inl ⟨by rfl, ?_⟩) (by assumption) ?_; rotate_left
        · (intro wS hSw; (try dsimp only at hSw); go_simp); all_goals with_reducible rfl
        try go_frame
        refine tk (oi := ⟨_, _, _, _, _, _⟩) (v := ?_) 1 rfl (by kernel_rfl) (fun _ _ _ h => h) (.inl ⟨by rfl, ?_⟩) (by assumption) ?_; rotate_left
        · (intro wS hSw; (try dsimp only at hSw); go_simp); all_goals with_reducible rfl
        try go_frame
        refine tk (oi := ⟨_, _, _, _, _, _⟩) (v := ?_) 2 rfl (by kernel_rfl) (fun _ _ _ h => h) (.inl ⟨by rfl, ?_⟩) (by assumption) ?_; rotate_left
        · (intro wS hSw; (try dsimp only at hSw); go_simp); all_goals with_reducible rfl
        try go_frame
        refine tk (oi := ⟨_, _, _, _, _, _⟩) (v := ?_) 3 rfl (by kernel_rfl) (fun _ _ _ h => h) (.inl ⟨by rfl, ?_⟩) (by assumption) ?_; rotate_left
        · (intro wS hSw; (try dsimp only at hSw); go_simp); all_goals with_reducible rfl
        try go_frame
        refine tk (oi := ⟨_, _, _, _, _, _⟩) (v := ?_) 4 rfl (by kernel_rfl) (fun _ _ _ h => h) (.inl ⟨by rfl, ?_⟩) (by assumption) ?_; rotate_left
        · (intro wS hSw; (try dsimp only at hSw); go_simp); all_goals with_reducible rfl
        try go_frame
        refine tk (oi := ⟨_, _, _, _, _, _⟩) (v := ?_) 5 rfl (by kernel_rfl) (fun _ _ _ h => h) (.inl ⟨by rfl, ?_⟩) (by assumption) ?_; rotate_left
        · (intro wS hSw; (try dsimp only at hSw); go_simp); all_goals with_reducible rfl
        try go_frame
        refine tk (oi := ⟨_, _, _, _, _, _⟩) (v := ?_) 6 rfl (by kernel_rfl) (fun _ _ _ h => h) (.inl ⟨by rfl, ?_⟩) (by assumption) ?_; rotate_left
        · (intro wS hSw; (try dsimp only at hSw); go_simp); all_goals with_reducible rfl
        try go_frame
        refine tk (oi := ⟨_, _, _, _, _, _⟩) (v := ?_) 7 rfl (by kernel_rfl) (fun _ _ _ h => h) (.inl ⟨by rfl, ?_⟩) (by assumption) ?_; rotate_left
        · (intro wS hSw; (try dsimp only at hSw); go_simp); all_goals with_reducible rfl
        try go_frame
        refine tk (oi := ⟨_, _, _, _, _, _⟩) (v := ?_) 8 rfl (by kernel_rfl) (fun _ _ _ h => h) (.inl ⟨by rfl, ?_⟩) (by assumption) ?_; rotate_left
        · (intro wS hSw; (try dsimp only at hSw); go_simp); all_goals with_reducible rfl
        try go_frame
        refine tk (oi := ⟨_, _, _, _, _, _⟩) (v := ?_) 9 rfl (by kernel_rfl) (fun _ _ _ h => h) (.inl ⟨by rfl, ?_⟩) (by assumption) ?_; rotate_left
        · (intro wS hSw; (try dsimp only at hSw); go_simp); all_goals with_reducible rfl
        try go_frame
        refine tk (oi := ⟨_, _, _, _, _, _⟩) (v := ?_) 10 rfl (by kernel_rfl) (fun _ _ _ h => h) (.inl ⟨by rfl, ?_⟩) (by assumption) ?_; rotate_left
        · (intro wS hSw; (try dsimp only at hSw); go_simp); all_goals with_reducible rfl
        try go_frame
        refine tk (oi := ⟨_, _, _, _, _, _⟩) (v := ?_) 11 rfl (by kernel_rfl) (fun _ _ _ h => h) (.inl ⟨by rfl, ?_⟩) (by assumption) ?_; rotate_left
        · (intro wS hSw; (try dsimp only at hSw); go_simp); all_goals with_reducible rfl
        try go_frame
        refine tk (oi := ⟨_, _, _, _, _, _⟩) (v := ?_) 12 rfl (by kernel_rfl) (fun _ _ _ h => h) (.inl ⟨by rfl, ?_⟩) (by assumption) ?_; rotate_left
        · (intro wS hSw; (try dsimp only at hSw); go_simp); all_goals with_reducible rfl
        try go_frame
        refine tk (oi := ⟨_, _, _, _, _, _⟩) (v := ?_) 13 rfl (by kernel_rfl) (fun _ _ _ h => h) (.inl ⟨by rfl, ?_⟩) (by assumption) ?_; rotate_left
        · (intro wS hSw; (try dsimp only at hSw); go_simp); all_goals with_reducible rfl
        try go_frame
        refine tk (oi := ⟨_, _, _, _, _, _⟩) (v := ?_) 14 rfl (by kernel_rfl) (fun _ _ _ h => h) (.inl ⟨by rfl, ?_⟩) (by assumption) ?_; rotate_left
        · (intro wS hSw; (try dsimp only at hSw); go_simp); all_goals with_reducible rfl
        try go_frame
        refine tk (oi := ⟨_, _, _, _, _, _⟩) (v := ?_) 15 rfl (by kernel_rfl) (fun _ _ _ h => h) (.inl ⟨by rfl, ?_⟩) (by assumption) ?_; rotate_left
        · (intro wS hSw; (try dsimp only at hSw); go_simp); all_goals with_reducible rfl
        try go_frame
        refine tk (oi := ⟨_, _, _, _, _, _⟩) (v := ?_) 16 rfl (by kernel_rfl) (fun _ _ _ h => h) (.inl ⟨by rfl, ?_⟩) (by assumption) ?_; rotate_left
        · (intro wS hSw; (try dsimp only at hSw); go_simp); all_goals with_reducible rfl
        try go_frame
        refine tk (oi := ⟨_, _, _, _, _, _⟩) (v := ?_) 17 rfl (by kernel_rfl) (fun _ _ _ h => h) (.inl ⟨by rfl, ?_⟩) (by assumption) ?_; rotate_left
        · (intro wS hSw; (try dsimp only at hSw); go_simp); all_goals with_reducible rfl
        try go_frame
        refine tk (oi := ⟨_, _, _, _, _, _⟩) (v := ?_) 18 rfl (by kernel_rfl) (fun _ _ _ h => h) (.inl ⟨by rfl, ?_⟩) (by assumption) ?_; rotate_left
        · (intro wS hSw; (try dsimp only at hSw); go_simp); all_goals with_reducible rfl
        try go_frame
        refine tk (oi := ⟨_, _, _, _, _, _⟩) (v := ?_) 19 rfl (by kernel_rfl) (fun _ _ _ h => h) (.inl ⟨by rfl, ?_⟩) (by assumption) ?_; rotate_left
        · (intro wS hSw; (try dsimp only at hSw); go_simp); all_goals with_reducible rfl
        try go_frame
        refine wpAnyH_ready (rs := [20]) (by kernel_rfl) (by simp) ?_
        refine AllReadyH.cons (o := ⟨_, _, _, _, _, _⟩) rfl (fun K hK => ?_) AllReadyH.nil
        go_simp
        refine (Try.strings_IndexByte _ _ _).mono ?_
        rw [u8_back]
        have hq' := hq.out
        unfold Hid at hq'
        rintro e w2 ⟨rfl, rfl⟩
        rw [show (⟨#[32, 9, 10, 61, 62, 60, 47, 34]⟩ : ByteArray).data.toList = [32, 9, 10, 61, 62, 60, 47, 34] from rfl, hq']
        clear hq'
        go_wp2_with fail
        refine hK.out _ _ (HS.out) (fun hHeld => ?_)
        clear hK K
        try go_frame
        refine tk (oi := ⟨_, _, _, _, _, _⟩) (v := ?_) 21 rfl (by kernel_rfl) (fun _ _ _ h => h) (.inl ⟨by rfl, ?_⟩) (by assumption) ?_; rotate_left
        · (intro wS hSw; (try dsimp only at hSw); go_simp); all_goals with_reducible rfl
        try go_frame
        refine tk (oi := ⟨_, _, _, _, _, _⟩) (v := ?_) 22 rfl (by kernel_rfl) (fun _ _ _ h => h) (.inl ⟨by rfl, ?_⟩) (by assumption) ?_; rotate_left
        · (intro wS hSw; (try dsimp only at hSw); go_simp); all_goals with_reducible rfl
        try go_frame
        refine wpAnyH_done (by kernel_rfl) ?_ _
        clear hHeld
        obtain ⟨h0, h1⟩ := HS.out
        have f1 : wr.drew.frozen? ⟨b, 1, none⟩ = false := HR.out.drew.froz 1
        go_wp2_with fail
        go_roundg (r.s.size - (p + 1))
        case measure => omega
        case rel => exact ⟨p + 1, by omega, by omega, rfl, HR.out.drew.pos (p + 1), HIN, grown_twice (grown_drew hg.out) (Lib.grownBy_setCell _ b 1 _)⟩
      | false =>
        rw [hnb] at hst hin'
        have HIN : Hid (p = r.pos + n.length) := hin'
        clear hin' hnb
        go_wp2_with fail
        refine wp_region_held_drew (S := fun w' => w'.cell? ⟨b, 0, none⟩ = some (.string r.s) ∧ w'.cell? ⟨b, 1, none⟩ = some (.int .i64 p)) (by kernel_rfl) HS.out (fun hHeld => ?_)
        refine tk (oi := ⟨_, _, _, _, _, _⟩) (v := ?_) 0 rfl (by kernel_rfl) (fun _ _ _ h => h) (.inl ⟨by rfl, ?_⟩) (by assumption) ?_; rotate_left
        · (intro wS hSw; (try dsimp only at hSw); go_simp); all_goals with_reducible rfl
        try go_frame
        refine tk (oi := ⟨_, _, _, _, _, _⟩) (v := ?_) 1 rfl (by kernel_rfl) (fun _ _ _ h => h) (.inl ⟨by rfl, ?_⟩) (by assumption) ?_; rotate_left
        · (intro wS hSw; (try dsimp only at hSw); go_simp); all_goals with_reducible rfl
        try go_frame
        refine tk (oi := ⟨_, _, _, _, _, _⟩) (v := ?_) 2 rfl (by kernel_rfl) (fun _ _ _ h => h) (.inl ⟨by rfl, ?_⟩) (by assumption) ?_; rotate_left
        · (intro wS hSw; (try dsimp only at hSw); go_simp); all_goals with_reducible rfl
        try go_frame
        refine tk (oi := ⟨_, _, _, _, _, _⟩) (v := ?_) 3 rfl (by kernel_rfl) (fun _ _ _ h => h) (.inl ⟨by rfl, ?_⟩) (by assumption) ?_; rotate_left
        · (intro wS hSw; (try dsimp only at hSw); go_simp); all_goals with_reducible rfl
        try go_frame
        refine tk (oi := ⟨_, _, _, _, _, _⟩) (v := ?_) 4 rfl (by kernel_rfl) (fun _ _ _ h => h) (.inl ⟨by rfl, ?_⟩) (by assumption) ?_; rotate_left
        · (intro wS hSw; (try dsimp only at hSw); go_simp); all_goals with_reducible rfl
        try go_frame
        refine tk (oi := ⟨_, _, _, _, _, _⟩) (v := ?_) 5 rfl (by kernel_rfl) (fun _ _ _ h => h) (.inl ⟨by rfl, ?_⟩) (by assumption) ?_; rotate_left
        · (intro wS hSw; (try dsimp only at hSw); go_simp); all_goals with_reducible rfl
        try go_frame
        refine tk (oi := ⟨_, _, _, _, _, _⟩) (v := ?_) 6 rfl (by kernel_rfl) (fun _ _ _ h => h) (.inl ⟨by rfl, ?_⟩) (by assumption) ?_; rotate_left
        · (intro wS hSw; (try dsimp only at hSw); go_simp); all_goals with_reducible rfl
        try go_frame
        refine tk (oi := ⟨_, _, _, _, _, _⟩) (v := ?_) 7 rfl (by kernel_rfl) (fun _ _ _ h => h) (.inl ⟨by rfl, ?_⟩) (by assumption) ?_; rotate_left
        · (intro wS hSw; (try dsimp only at hSw); go_simp); all_goals with_reducible rfl
        try go_frame
        refine tk (oi := ⟨_, _, _, _, _, _⟩) (v := ?_) 8 rfl (by kernel_rfl) (fun _ _ _ h => h) (.inl ⟨by rfl, ?_⟩) (by assumption) ?_; rotate_left
        · (intro wS hSw; (try dsimp only at hSw); go_simp); all_goals with_reducible rfl
        try go_frame
        refine tk (oi := ⟨_, _, _, _, _, _⟩) (v := ?_) 9 rfl (by kernel_rfl) (fun _ _ _ h => h) (.inl ⟨by rfl, ?_⟩) (by assumption) ?_; rotate_left
        · (intro wS hSw; (try dsimp only at hSw); go_simp); all_goals with_reducible rfl
        try go_frame
        refine tk (oi := ⟨_, _, _, _, _, _⟩) (v := ?_) 10 rfl (by kernel_rfl) (fun _ _ _ h => h) (.inl ⟨by rfl, ?_⟩) (by assumption) ?_; rotate_left
        · (intro wS hSw; (try dsimp only at hSw); go_simp); all_goals with_reducible rfl
        try go_frame
        refine tk (oi := ⟨_, _, _, _, _, _⟩) (v := ?_) 11 rfl (by kernel_rfl) (fun _ _ _ h => h) (.inl ⟨by rfl, ?_⟩) (by assumption) ?_; rotate_left
        · (intro wS hSw; (try dsimp only at hSw); go_simp); all_goals with_reducible rfl
        try go_frame
        refine tk (oi := ⟨_, _, _, _, _, _⟩) (v := ?_) 12 rfl (by kernel_rfl) (fun _ _ _ h => h) (.inl ⟨by rfl, ?_⟩) (by assumption) ?_; rotate_left
        · (intro wS hSw; (try dsimp only at hSw); go_simp); all_goals with_reducible rfl
        try go_frame
        refine tk (oi := ⟨_, _, _, _, _, _⟩) (v := ?_) 13 rfl (by kernel_rfl) (fun _ _ _ h => h) (.inl ⟨by rfl, ?_⟩) (by assumption) ?_; rotate_left
        · (intro wS hSw; (try dsimp only at hSw); go_simp); all_goals with_reducible rfl
        try go_frame
        refine tk (oi := ⟨_, _, _, _, _, _⟩) (v := ?_) 14 rfl (by kernel_rfl) (fun _ _ _ h => h) (.inl ⟨by rfl, ?_⟩) (by assumption) ?_; rotate_left
        · (intro wS hSw; (try dsimp only at hSw); go_simp); all_goals with_reducible rfl
        try go_frame
        refine tk (oi := ⟨_, _, _, _, _, _⟩) (v := ?_) 15 rfl (by kernel_rfl) (fun _ _ _ h => h) (.inl ⟨by rfl, ?_⟩) (by assumption) ?_; rotate_left
        · (intro wS hSw; (try dsimp only at hSw); go_simp); all_goals with_reducible rfl
        try go_frame
        refine tk (oi := ⟨_, _, _, _, _, _⟩) (v := ?_) 16 rfl (by kernel_rfl) (fun _ _ _ h => h) (.inl ⟨by rfl, ?_⟩) (by assumption) ?_; rotate_left
        · (intro wS hSw; (try dsimp only at hSw); go_simp); all_goals with_reducible rfl
        try go_frame
        refine tk (oi := ⟨_, _, _, _, _, _⟩) (v := ?_) 17 rfl (by kernel_rfl) (fun _ _ _ h => h) (.inl ⟨by rfl, ?_⟩) (by assumption) ?_; rotate_left
        · (intro wS hSw; (try dsimp only at hSw); go_simp); all_goals with_reducible rfl
        try go_frame
        refine tk (oi := ⟨_, _, _, _, _, _⟩) (v := ?_) 18 rfl (by kernel_rfl) (fun _ _ _ h => h) (.inl ⟨by rfl, ?_⟩) (by assumption) ?_; rotate_left
        · (intro wS hSw; (try dsimp only at hSw); go_simp); all_goals with_reducible rfl
        try go_frame
        refine tk (oi := ⟨_, _, _, _, _, _⟩) (v := ?_) 19 rfl (by kernel_rfl) (fun _ _ _ h => h) (.inl ⟨by rfl, ?_⟩) (by assumption) ?_; rotate_left
        · (intro wS hSw; (try dsimp only at hSw); go_simp); all_goals with_reducible rfl
        try go_frame
        refine wpAnyH_ready (rs := [20]) (by kernel_rfl) (by simp) ?_
        refine AllReadyH.cons (o := ⟨_, _, _, _, _, _⟩) rfl (fun K hK => ?_) AllReadyH.nil
        go_simp
        refine (Try.strings_IndexByte _ _ _).mono ?_
        rw [u8_back]
        have hq' := hq.out
        unfold Hid at hq'
        rintro e w2 ⟨rfl, rfl⟩
        rw [show (⟨#[32, 9, 10, 61, 62, 60, 47, 34]⟩ : ByteArray).data.toList = [32, 9, 10, 61, 62, 60, 47, 34] from rfl, hq']
        clear hq'
        go_wp2_with fail
        refine hK.out _ _ (HS.out) (fun hHeld => ?_)
        clear hK K
        try go_frame
        refine tk (oi := ⟨_, _, _, _, _, _⟩) (v := ?_) 21 rfl (by kernel_rfl) (fun _ _ _ h => h) (.inl ⟨by rfl, ?_⟩) (by assumption) ?_; rotate_left
        · (intro wS hSw; (try dsimp only at hSw); go_simp); all_goals with_reducible rfl
        try go_frame
        refine tk (oi := ⟨_, _, _, _, _, _⟩) (v := ?_) 22 rfl (by kernel_rfl) (fun _ _ _ h => h) (.inl ⟨by rfl, ?_⟩) (by assumption) ?_; rotate_left
        · (intro wS hSw; (try dsimp only at hSw); go_simp); all_goals with_reducible rfl
        try go_frame
        refine wpAnyH_done (by kernel_rfl) ?_ _
        clear hHeld
        obtain ⟨h0, h1⟩ := HS.out
        have hnl : n.length ≤ (r.s.data.toList.drop r.pos).length := by rw [← hn.out]; exact wordL_len _
        have hext : Hid (r.s.extract r.pos p = ⟨n.toArray⟩) := by
          show _ = _
          rw [ba_list (r.s.extract r.pos p), Lib.extract_data]
          have : (r.s.data.toList.drop r.pos).take (p - r.pos) = n := by
            have hp2 := HIN.out
            rw [show p - r.pos = n.length by omega]
            have h2 := span_word (r.s.data.toList.drop r.pos) nb
            have h3 : (r.s.data.toList.drop r.pos).takeWhile nb = n := hn.out
            rw [h3] at h2
            conv => lhs; rw [h2]
            rw [List.take_append_of_le_length (Nat.le_refl _), List.take_length]
          rw [this]
        have i0 : (0 : Int) ≤ (r.pos : Int) := by omega
        have i1 : (r.pos : Int) ≤ p := by omega
        have i2 : (p : Int) ≤ r.s.size := by omega
        have hsz : n.length ≤ 1000000000 := by rw [List.length_drop, HL.out] at hnl; omega
        clear hnl
        go_wp2_with fail
        refine wp_region_held_drew (S := fun w' => w'.cell? ⟨b, 0, none⟩ = some (.string r.s) ∧ w'.cell? ⟨b, 1, none⟩ = some (.int .i64 p)) (by kernel_rfl) HS.out (fun hHeld => ?_)
        refine tk (oi := ⟨_, _, _, _, _, _⟩) (v := ?_) 0 rfl (by kernel_rfl) (fun _ _ _ h => h) (.inl ⟨by rfl, ?_⟩) (by assumption) ?_; rotate_left
        · (intro wS hSw; (try dsimp only at hSw); go_simp); all_goals with_reducible rfl
        try go_frame
        refine tk (oi := ⟨_, _, _, _, _, _⟩) (v := ?_) 1 rfl (by kernel_rfl) (fun _ _ _ h => h) (.inl ⟨by rfl, ?_⟩) (by assumption) ?_; rotate_left
        · (intro wS hSw; (try dsimp only at hSw); go_simp); all_goals with_reducible rfl
        try go_frame
        refine tk (oi := ⟨_, _, _, _, _, _⟩) (v := ?_) 2 rfl (by kernel_rfl) (fun _ _ _ h => h) (.inl ⟨by rfl, ?_⟩) (by assumption) ?_; rotate_left
        · (intro wS hSw; (try dsimp only at hSw); go_simp); all_goals with_reducible rfl
        try go_frame
        refine tk (oi := ⟨_, _, _, _, _, _⟩) (v := ?_) 3 rfl (by kernel_rfl) (fun _ _ _ h => h) (.inl ⟨by rfl, ?_⟩) (by assumption) ?_; rotate_left
        · (intro wS hSw; (try dsimp only at hSw); go_simp); all_goals with_reducible rfl
        try go_frame
        refine tk (oi := ⟨_, _, _, _, _, _⟩) (v := ?_) 4 rfl (by kernel_rfl) (fun _ _ _ h => h) (.inl ⟨by rfl, ?_⟩) (by assumption) ?_; rotate_left
        · (intro wS hSw; (try dsimp only at hSw); go_simp); all_goals with_reducible rfl
        try go_frame
        refine tk (oi := ⟨_, _, _, _, _, _⟩) (v := ?_) 5 rfl (by kernel_rfl) (fun _ _ _ h => h) (.inl ⟨by rfl, ?_⟩) (by assumption) ?_; rotate_left
        · (intro wS hSw; (try dsimp only at hSw); go_simp); all_goals with_reducible rfl
        try go_frame
        refine tk (oi := ⟨_, _, _, _, _, _⟩) (v := ?_) 6 rfl (by kernel_rfl) (fun _ _ _ h => h) (.inl ⟨by rfl, ?_⟩) (by assumption) ?_; rotate_left
        · (intro wS hSw; (try dsimp only at hSw); go_simp); all_goals with_reducible rfl
        try go_frame
        refine tk (oi := ⟨_, _, _, _, _, _⟩) (v := ?_) 7 rfl (by kernel_rfl) (fun _ _ _ h => h) (.inl ⟨by rfl, ?_⟩) (by assumption) ?_; rotate_left
        · (intro wS hSw; (try dsimp only at hSw); go_simp); all_goals with_reducible rfl
        try go_frame
        refine tk (oi := ⟨_, _, _, _, _, _⟩) (v := ?_) 8 rfl (by kernel_rfl) (fun _ _ _ h => h) (.inl ⟨by rfl, ?_⟩) (by assumption) ?_; rotate_left
        · (intro wS hSw; (try dsimp only at hSw); go_simp); all_goals with_reducible rfl
        try go_frame
        refine tk (oi := ⟨_, _, _, _, _, _⟩) (v := ?_) 9 rfl (by kernel_rfl) (fun _ _ _ h => h) (.inl ⟨by rfl, ?_⟩) (by assumption) ?_; rotate_left
        · (intro wS hSw; (try dsimp only at hSw); go_simp); all_goals with_reducible rfl
        try go_frame
        refine tk (oi := ⟨_, _, _, _, _, _⟩) (v := ?_) 10 rfl (by kernel_rfl) (fun _ _ _ h => h) (.inl ⟨by rfl, ?_⟩) (by assumption) ?_; rotate_left
        · (intro wS hSw; (try dsimp only at hSw); go_simp); all_goals with_reducible rfl
        try go_frame
        refine wpAnyH_done (by kernel_rfl) ?_ _
        clear hHeld h0 h1
        rw [hext.out]
        go_wp2_with fail
        refine (Name_l n _ hsz v hv).mono ?_
        rintro e w2 ⟨rfl, hb2⟩
        have hR2 : RdAt w2 b { r with pos := r.pos + n.length } := by
          rw [← HIN.out]; exact RdAt.below (w := wr.drew.drew) HR.out.drew.drew hb2
        have hg2 : w.grownBy w2 (some b) := Lib.grownBy_below (grown_drew (grown_drew hg.out)) hb2
        cases v with
        | true =>
          go_wp2_with fail
          go_ret2
          exact ⟨by rw [← hT.out]; rfl, by rw [← hR.out]; exact hR2, hg2⟩
        | false =>
          go_wp2_with fail
          refine (fail_any b _ w2 hR2 r.pos 31).mono ?_
          rintro e w3 ⟨rfl, h3, hg3⟩
          go_wp2_with fail
          go_ret2
          exact ⟨by rw [← hT.out]; rfl, by rw [← hR.out]; exact h3, grown_twice hg2 hg3⟩
    · have HIN : Hid (p = r.pos + n.length) := by
        show _ = _
        rw [← hin.out, List.drop_eq_nil_of_le (by have := HL.out; omega)]; rfl
      have t3 : decide ((p : Int) < r.s.size) = false := by simp; omega
      have t4 : decide (p < r.s.size) = false := by simp; omega
      clear hin
      go_wp2_with fail
      refine wp_region_held_drew (S := fun w' => w'.cell? ⟨b, 0, none⟩ = some (.string r.s) ∧ w'.cell? ⟨b, 1, none⟩ = some (.int .i64 p)) (by kernel_rfl) HS.out (fun hHeld => ?_)
      refine tk (oi := ⟨_, _, _, _, _, _⟩) (v := ?_) 0 rfl (by kernel_rfl) (fun _ _ _ h => h) (.inl ⟨by rfl, ?_⟩) (by assumption) ?_; rotate_left
      · (intro wS hSw; (try dsimp only at hSw); go_simp); all_goals with_reducible rfl
      try go_frame
      refine tk (oi := ⟨_, _, _, _, _, _⟩) (v := ?_) 1 rfl (by kernel_rfl) (fun _ _ _ h => h) (.inl ⟨by rfl, ?_⟩) (by assumption) ?_; rotate_left
      · (intro wS hSw; (try dsimp only at hSw); go_simp); all_goals with_reducible rfl
      try go_frame
      refine tk (oi := ⟨_, _, _, _, _, _⟩) (v := ?_) 2 rfl (by kernel_rfl) (fun _ _ _ h => h) (.inl ⟨by rfl, ?_⟩) (by assumption) ?_; rotate_left
      · (intro wS hSw; (try dsimp only at hSw); go_simp); all_goals with_reducible rfl
      try go_frame
      refine tk (oi := ⟨_, _, _, _, _, _⟩) (v := ?_) 3 rfl (by kernel_rfl) (fun _ _ _ h => h) (.inl ⟨by rfl, ?_⟩) (by assumption) ?_; rotate_left
      · (intro wS hSw; (try dsimp only at hSw); go_simp); all_goals with_reducible rfl
      try go_frame
      refine tk (oi := ⟨_, _, _, _, _, _⟩) (v := ?_) 4 rfl (by kernel_rfl) (fun _ _ _ h => h) (.inl ⟨by rfl, ?_⟩) (by assumption) ?_; rotate_left
      · (intro wS hSw; (try dsimp only at hSw); go_simp); all_goals with_reducible rfl
      try go_frame
      refine tk (oi := ⟨_, _, _, _, _, _⟩) (v := ?_) 5 rfl (by kernel_rfl) (fun _ _ _ h => h) (.inl ⟨by rfl, ?_⟩) (by assumption) ?_; rotate_left
      · (intro wS hSw; (try dsimp only at hSw); go_simp); all_goals with_reducible rfl
      try go_frame
      refine tk (oi := ⟨_, _, _, _, _, _⟩) (v := ?_) 6 rfl (by kernel_rfl) (fun _ _ _ h => h) (.inl ⟨by rfl, ?_⟩) (by assumption) ?_; rotate_left
      · (intro wS hSw; (try dsimp only at hSw); go_simp); all_goals with_reducible rfl
      try go_frame
      refine tk (oi := ⟨_, _, _, _, _, _⟩) (v := ?_) 7 rfl (by kernel_rfl) (fun _ _ _ h => h) (.inl ⟨by rfl, ?_⟩) (by assumption) ?_; rotate_left
      · (intro wS hSw; (try dsimp only at hSw); go_simp); all_goals with_reducible rfl
      try go_frame
      refine tk (oi := ⟨_, _, _, _, _, _⟩) (v := ?_) 8 rfl (by kernel_rfl) (fun _ _ _ h => h) (.inl ⟨by rfl, ?_⟩) (by assumption) ?_; rotate_left
      · (intro wS hSw; (try dsimp only at hSw); go_simp); all_goals with_reducible rfl
      try go_frame
      refine tk (oi := ⟨_, _, _, _, _, _⟩) (v := ?_) 9 rfl (by kernel_rfl) (fun _ _ _ h => h) (.inl ⟨by rfl, ?_⟩) (by assumption) ?_; rotate_left
      · (intro wS hSw; (try dsimp only at hSw); go_simp); all_goals with_reducible rfl
      try go_frame
      refine tk (oi := ⟨_, _, _, _, _, _⟩) (v := ?_) 10 rfl (by kernel_rfl) (fun _ _ _ h => h) (.inl ⟨by rfl, ?_⟩) (by assumption) ?_; rotate_left
      · (intro wS hSw; (try dsimp only at hSw); go_simp); all_goals with_reducible rfl
      try go_frame
      refine tk (oi := ⟨_, _, _, _, _, _⟩) (v := undef) 11 rfl (by kernel_rfl) (fun _ _ _ h => h) (.inr ⟨by rfl, rfl⟩) (by assumption) ?_
      try go_frame
      refine tk (oi := ⟨_, _, _, _, _, _⟩) (v := undef) 12 rfl (by kernel_rfl) (fun _ _ _ h => h) (.inr ⟨by rfl, rfl⟩) (by assumption) ?_
      try go_frame
      refine tk (oi := ⟨_, _, _, _, _, _⟩) (v := undef) 13 rfl (by kernel_rfl) (fun _ _ _ h => h) (.inr ⟨by rfl, rfl⟩) (by assumption) ?_
      try go_frame
      refine tk (oi := ⟨_, _, _, _, _, _⟩) (v := undef) 14 rfl (by kernel_rfl) (fun _ _ _ h => h) (.inr ⟨by rfl, rfl⟩) (by assumption) ?_
      try go_frame
      refine tk (oi := ⟨_, _, _, _, _, _⟩) (v := undef) 15 rfl (by kernel_rfl) (fun _ _ _ h => h) (.inr ⟨by rfl, rfl⟩) (by assumption) ?_
      try go_frame
      refine tk (oi := ⟨_, _, _, _, _, _⟩) (v := undef) 16 rfl (by kernel_rfl) (fun _ _ _ h => h) (.inr ⟨by rfl, rfl⟩) (by assumption) ?_
      try go_frame
      refine tk (oi := ⟨_, _, _, _, _, _⟩) (v := undef) 17 rfl (by kernel_rfl) (fun _ _ _ h => h) (.inr ⟨by rfl, rfl⟩) (by assumption) ?_
      try go_frame
      refine tk (oi := ⟨_, _, _, _, _, _⟩) (v := undef) 18 rfl (by kernel_rfl) (fun _ _ _ h => h) (.inr ⟨by rfl, rfl⟩) (by assumption) ?_
      try go_frame
      refine tk (oi := ⟨_, _, _, _, _, _⟩) (v := undef) 19 rfl (by kernel_rfl) (fun _ _ _ h => h) (.inr ⟨by rfl, rfl⟩) (by assumption) ?_
      try go_frame
      refine tk (oi := ⟨_, _, _, _, _, _⟩) (v := undef) 20 rfl (by kernel_rfl) (fun _ _ _ h => h) (.inr ⟨by rfl, rfl⟩) (by assumption) ?_
      try go_frame
      refine tk (oi := ⟨_, _, _, _, _, _⟩) (v := undef) 21 rfl (by kernel_rfl) (fun _ _ _ h => h) (.inr ⟨by rfl, rfl⟩) (by assumption) ?_
      try go_frame
      refine tk (oi := ⟨_, _, _, _, _, _⟩) (v := ?_) 22 rfl (by kernel_rfl) (fun _ _ _ h => h) (.inl ⟨by rfl, ?_⟩) (by assumption) ?_; rotate_left
      · (intro wS hSw; (try dsimp only at hSw); go_simp); all_goals with_reducible rfl
      try go_frame
      refine wpAnyH_done (by kernel_rfl) ?_ _
      clear hHeld
      obtain ⟨h0, h1⟩ := HS.out
      have hnl : n.length ≤ (r.s.data.toList.drop r.pos).length := by rw [← hn.out]; exact wordL_len _
      have hext : Hid (r.s.extract r.pos p = ⟨n.toArray⟩) := by
        show _ = _
        rw [ba_list (r.s.extract r.pos p), Lib.extract_data]
        have : (r.s.data.toList.drop r.pos).take (p - r.pos) = n := by
          have hp2 := HIN.out
          rw [show p - r.pos = n.length by omega]
          have h2 := span_word (r.s.data.toList.drop r.pos) nb
          have h3 : (r.s.data.toList.drop r.pos).takeWhile nb = n := hn.out
          rw [h3] at h2
          conv => lhs; rw [h2]
          rw [List.take_append_of_le_length (Nat.le_refl _), List.take_length]
        rw [this]
      have i0 : (0 : Int) ≤ (r.pos : Int) := by omega
      have i1 : (r.pos : Int) ≤ p := by omega
      have i2 : (p : Int) ≤ r.s.size := by omega
      have hsz : n.length ≤ 1000000000 := by rw [List.length_drop, HL.out] at hnl; omega
      clear hnl
      go_wp2_with fail
      refine wp_region_held_drew (S := fun w' => w'.cell? ⟨b, 0, none⟩ = some (.string r.s) ∧ w'.cell? ⟨b, 1, none⟩ = some (.int .i64 p)) (by kernel_rfl) HS.out (fun hHeld => ?_)
      refine tk (oi := ⟨_, _, _, _, _, _⟩) (v := ?_) 0 rfl (by kernel_rfl) (fun _ _ _ h => h) (.inl ⟨by rfl, ?_⟩) (by assumption) ?_; rotate_left
      · (intro wS hSw; (try dsimp only at hSw); go_simp); all_goals with_reducible rfl
      try go_frame
      refine tk (oi := ⟨_, _, _, _, _, _⟩) (v := ?_) 1 rfl (by kernel_rfl) (fun _ _ _ h => h) (.inl ⟨by rfl, ?_⟩) (by assumption) ?_; rotate_left
      · (intro wS hSw; (try dsimp only at hSw); go_simp); all_goals with_reducible rfl
      try go_frame
      refine tk (oi := ⟨_, _, _, _, _, _⟩) (v := ?_) 2 rfl (by kernel_rfl) (fun _ _ _ h => h) (.inl ⟨by rfl, ?_⟩) (by assumption) ?_; rotate_left
      · (intro wS hSw; (try dsimp only at hSw); go_simp); all_goals with_reducible rfl
      try go_frame
      refine tk (oi := ⟨_, _, _, _, _, _⟩) (v := ?_) 3 rfl (by kernel_rfl) (fun _ _ _ h => h) (.inl ⟨by rfl, ?_⟩) (by assumption) ?_; rotate_left
      · (intro wS hSw; (try dsimp only at hSw); go_simp); all_goals with_reducible rfl
      try go_frame
      refine tk (oi := ⟨_, _, _, _, _, _⟩) (v := ?_) 4 rfl (by kernel_rfl) (fun _ _ _ h => h) (.inl ⟨by rfl, ?_⟩) (by assumption) ?_; rotate_left
      · (intro wS hSw; (try dsimp only at hSw); go_simp); all_goals with_reducible rfl
      try go_frame
      refine tk (oi := ⟨_, _, _, _, _, _⟩) (v := ?_) 5 rfl (by kernel_rfl) (fun _ _ _ h => h) (.inl ⟨by rfl, ?_⟩) (by assumption) ?_; rotate_left
      · (intro wS hSw; (try dsimp only at hSw); go_simp); all_goals with_reducible rfl
      try go_frame
      refine tk (oi := ⟨_, _, _, _, _, _⟩) (v := ?_) 6 rfl (by kernel_rfl) (fun _ _ _ h => h) (.inl ⟨by rfl, ?_⟩) (by assumption) ?_; rotate_left
      · (intro wS hSw; (try dsimp only at hSw); go_simp); all_goals with_reducible rfl
      try go_frame
      refine tk (oi := ⟨_, _, _, _, _, _⟩) (v := ?_) 7 rfl (by kernel_rfl) (fun _ _ _ h => h) (.inl ⟨by rfl, ?_⟩) (by assumption) ?_; rotate_left
      · (intro wS hSw; (try dsimp only at hSw); go_simp); all_goals with_reducible rfl
      try go_frame
      refine tk (oi := ⟨_, _, _, _, _, _⟩) (v := ?_) 8 rfl (by kernel_rfl) (fun _ _ _ h => h) (.inl ⟨by rfl, ?_⟩) (by assumption) ?_; rotate_left
      · (intro wS hSw; (try dsimp only at hSw); go_simp); all_goals with_reducible rfl
      try go_frame
      refine tk (oi := ⟨_, _, _, _, _, _⟩) (v := ?_) 9 rfl (by kernel_rfl) (fun _ _ _ h => h) (.inl ⟨by rfl, ?_⟩) (by assumption) ?_; rotate_left
      · (intro wS hSw; (try dsimp only at hSw); go_simp); all_goals with_reducible rfl
      try go_frame
      refine tk (oi := ⟨_, _, _, _, _, _⟩) (v := ?_) 10 rfl (by kernel_rfl) (fun _ _ _ h => h) (.inl ⟨by rfl, ?_⟩) (by assumption) ?_; rotate_left
      · (intro wS hSw; (try dsimp only at hSw); go_simp); all_goals with_reducible rfl
      try go_frame
      refine wpAnyH_done (by kernel_rfl) ?_ _
      clear hHeld h0 h1
      rw [hext.out]
      go_wp2_with fail
      refine (Name_l n _ hsz v hv).mono ?_
      rintro e w2 ⟨rfl, hb2⟩
      have hR2 : RdAt w2 b { r with pos := r.pos + n.length } := by
        rw [← HIN.out]; exact RdAt.below (w := wr.drew.drew) HR.out.drew.drew hb2
      have hg2 : w.grownBy w2 (some b) := Lib.grownBy_below (grown_drew (grown_drew hg.out)) hb2
      cases v with
      | true =>
        go_wp2_with fail
        go_ret2
        exact ⟨by rw [← hT.out]; rfl, by rw [← hR.out]; exact hR2, hg2⟩
      | false =>
        go_wp2_with fail
        refine (fail_any b _ w2 hR2 r.pos 31).mono ?_
        rintro e w3 ⟨rfl, h3, hg3⟩
        go_wp2_with fail
        go_ret2
        exact ⟨by rw [← hT.out]; rfl, by rw [← hR.out]; exact h3, grown_twice hg2 hg3⟩
end Go.Proofs.Ythifddkmbjnncaa

/-
  The document's reader of tokens: the walks of there, blank, skip, wordEnd, find, fails (gen_rl1.py).
-/
namespace Go.Proofs.Ythifddkmbjnncaa
open Go.RowKit

set_option maxRecDepth 100000 in
set_option maxHeartbeats 1000000 in
theorem there_any (s : ByteArray) (p : Nat) (t : List UInt8) (w : World) (hp : p ≤ s.size) (hs : s.size ≤ 1000000000) (ht : t.length ≤ 1000) (v : Bool) (hv : Hid (pre t (s.data.toList.drop p) = v)) :
    Calls Try.prog 62 #[.string s, .int .i64 p, .string ⟨t.toArray⟩] w (Ret w (.bool v)) := by
  have hsz : (⟨t.toArray⟩ : ByteArray).size = t.length := by show t.toArray.size = _; simp
  by_cases hl : t.length ≤ s.size - p
  · have hx : (s.extract p (p + t.length)).data.toList = (s.data.toList.drop p).take t.length := by
      rw [Lib.extract_data]; congr 1; omega
    have hq : Hid (((s.extract p (p + t.length)).toList == t) = v) := by
      show _ = _
      rw [ByteArray.toList_eq, hx, ← hv.out]; rfl
    have i0 : (0 : Int) ≤ (p : Int) := by omega
    have i1 : (t.length : Int) ≤ (s.size : Int) - p := by omega
    have i2 : (p : Int) + t.length ≤ s.size := by omega
    have i3 : (p : Int) ≤ (p : Int) + t.length := by omega
    have i4 : (p : Int) ≤ s.size := by omega
    clear hx hl
    go_enter Try.func62, Try.ntmps62
    go_wp2_with fail
    go_ret
    exact ⟨ret_bool hq.out, Below.refl _ _⟩
  · have hv' : v = false := by
      rw [← hv.out]
      cases h : pre t (s.data.toList.drop p) with
      | false => rfl
      | true => have := pre_len h; rw [List.length_drop, size_toList] at this; omega
    subst hv'
    have i1 : (s.size : Int) - p < t.length := by omega
    go_enter Try.func62, Try.ntmps62
    go_wp2_with fail
    go_ret
    exact ⟨rfl, Below.refl _ _⟩

set_option maxHeartbeats 1000000 in
theorem rblank_any (x : UInt8) (w : World) : Calls Try.prog 107 #[.int .u8 x.toNat] w (Ret w (.bool (blankB x))) := by
  by_cases h32 : x = 32
  · subst h32
    go_enter Try.func107, Try.ntmps107
    go_wp2_with fail
    go_ret
    exact ⟨rfl, Below.refl _ _⟩
  by_cases h9 : x = 9
  · subst h9
    go_enter Try.func107, Try.ntmps107
    go_wp2_with fail
    go_ret
    exact ⟨rfl, Below.refl _ _⟩
  by_cases h10 : x = 10
  · subst h10
    go_enter Try.func107, Try.ntmps107
    go_wp2_with fail
    go_ret
    exact ⟨rfl, Below.refl _ _⟩
  have hb : blankB x = false := by simp [blankB, h32, h9, h10]
  rw [hb]
  have e32 : ((x.toNat : Int) == 32) = false := u8_ne h32
  have e9 : ((x.toNat : Int) == 9) = false := u8_ne h9
  have e10 : ((x.toNat : Int) == 10) = false := u8_ne h10
  clear h32 h9 h10 hb
  go_enter Try.func107, Try.ntmps107
  go_wp2_with fail
  go_ret
  exact ⟨rfl, Below.refl _ _⟩

set_option maxRecDepth 100000 in
set_option maxHeartbeats 1000000 in
theorem rfails_any (p e : Int) (w : World) :
    Calls Try.prog 90 #[.int .i64 p, .int .i64 e] w (Ret w (.agg #[.int .i64 0, .int .i64 0, .int .i64 0, .string ⟨#[]⟩, .string ⟨#[]⟩, .slice none 0 0, .int .i64 p, .int .i64 e])) := by
  go_enter Try.func90, Try.ntmps90
  go_wp2_with fail
  try simp only [Exit.inBlock, Exit.then]
  refine bodyPost_ret (results_cell_row Try.results90 _ _ w.heap.size 94 #[.int .i64 0, .int .i64 0, .int .i64 0, .string ⟨#[]⟩, .string ⟨#[]⟩, .slice none 0 0, .int .i64 p, .int .i64 e] (0, 0) _ rfl (heap_alloc_new w _) Try.underlying94 rfl (by kernel_rfl)) rfl ?_
  exact ⟨rfl, (Below.refl _ w).alloc (Nat.le_refl _) _⟩

set_option maxRecDepth 100000 in
set_option maxHeartbeats 2000000 in
theorem rskip_any (s : ByteArray) (p0 : Nat) (w : World) (hp : p0 ≤ s.size) (hs : s.size ≤ 1000000000) (n : Nat) (hn : Hid (p0 + skipL (s.data.toList.drop p0) = n)) :
    Calls Try.prog 91 #[.string s, .int .i64 p0] w (Ret w (.int .i64 n)) := by
  have HL := Lib.hid (size_toList s)
  go_enter Try.func91, Try.ntmps91
  go_wp2_with fail
  go_loopw [1] (fun i wr => ∃ (p : Nat), p ≤ s.size ∧ i = .int .i64 (p : Int) ∧ Hid (p + skipL (s.data.toList.drop p) = n) ∧ Hid (Below w.heap.size w wr)) (fun i _ => s.size - (intOf i).toNat)
  case atStart => exact ⟨p0, hp, rfl, hn.out, Below.refl _ _⟩
  case round =>
    obtain ⟨p, hps, rfl, hin, hbel⟩ := hrel
    by_cases hlt : p < s.size
    · obtain ⟨x, HX⟩ : ∃ x, Hid (s.data.toList[p]? = some x) := ⟨s.data.toList[p]'(by have := HL.out; omega), List.getElem?_eq_getElem _⟩
      have hsx : s[p] = x := getk_of s p x HX.out hlt
      have hin' := hin.out
      rw [drop_cons HX.out, skipL_cons] at hin'
      have j0 : (0 : Int) ≤ (p : Int) := by omega
      have j1 : (p : Int) < s.size := by omega
      obtain ⟨bv, hbv⟩ : ∃ bv, Hid (blankB x = bv) := ⟨_, rfl⟩
      rw [hbv.out] at hin'
      cases bv with
      | true =>
        have HIN : Hid (p + 1 + skipL (s.data.toList.drop (p + 1)) = n) := by show _ = _; rw [← hin', if_pos rfl]; omega
        clear hin hin'
        go_wp2_with fail
        refine (rblank_any x wr).mono ?_
        rintro e w2 ⟨he, hb2⟩
        rw [hbv.out] at he
        subst he
        go_wp2_with fail
        go_roundw
        case rel => exact ⟨p + 1, by omega, by go_num, HIN.out, hbel.out.trans (hb2.mono hbel.out.size)⟩
        case measure => simp [intOf]; omega
      | false =>
        have HIN : Hid (p = n) := by show _ = _; rw [← hin', if_neg (by decide)]; rfl
        clear hin hin'
        go_wp2_with fail
        refine (rblank_any x wr).mono ?_
        rintro e w2 ⟨he, hb2⟩
        rw [hbv.out] at he
        subst he
        go_wp2_with fail
        go_ret
        exact ⟨by rw [← HIN.out]; rfl, hbel.out.trans (hb2.mono hbel.out.size)⟩
    · have HIN : Hid (p = n) := by
        show _ = _
        rw [← hin.out, List.drop_eq_nil_of_le (by rw [HL.out]; omega)]; rfl
      have j1 : (s.size : Int) ≤ (p : Int) := by omega
      clear hin
      go_wp2_with fail
      go_ret
      exact ⟨by rw [← HIN.out]; rfl, hbel.out⟩

set_option maxRecDepth 100000 in
set_option maxHeartbeats 2000000 in
theorem rfind_any (s : ByteArray) (p0 : Nat) (c : UInt8) (w : World) (hp : p0 ≤ s.size) (hs : s.size ≤ 1000000000) (n : Nat) (hn : Hid (p0 + ((s.data.toList.drop p0).takeWhile (· != c)).length = n)) :
    Calls Try.prog 93 #[.string s, .int .i64 p0, .int .u8 c.toNat] w (Ret w (.int .i64 n)) := by
  have HL := Lib.hid (size_toList s)
  go_enter Try.func93, Try.ntmps93
  go_wp2_with fail
  go_loopw [1] (fun i wr => ∃ (p : Nat), p ≤ s.size ∧ i = .int .i64 (p : Int) ∧ Hid (p + ((s.data.toList.drop p).takeWhile (· != c)).length = n) ∧ Hid (Below w.heap.size w wr)) (fun i _ => s.size - (intOf i).toNat)
  case atStart => exact ⟨p0, hp, rfl, hn.out, Below.refl _ _⟩
  case round =>
    obtain ⟨p, hps, rfl, hin, hbel⟩ := hrel
    by_cases hlt : p < s.size
    · obtain ⟨x, HX⟩ : ∃ x, Hid (s.data.toList[p]? = some x) := ⟨s.data.toList[p]'(by have := HL.out; omega), List.getElem?_eq_getElem _⟩
      have hsx : s[p] = x := getk_of s p x HX.out hlt
      have hin' := hin.out
      rw [drop_cons HX.out, List.takeWhile_cons] at hin'
      have j0 : (0 : Int) ≤ (p : Int) := by omega
      have j1 : (p : Int) < s.size := by omega
      by_cases hc : x = c
      · subst hc
        have HIN : Hid (p = n) := by show _ = _; rw [← hin']; simp
        clear hin hin'
        go_wp2_with fail
        go_ret
        exact ⟨by rw [← HIN.out]; rfl, hbel.out⟩
      · have hne : (x != c) = true := by simpa using hc
        have hne2 : ((x.toNat : Int) != (c.toNat : Int)) = true := by have := u8_ne hc; simp [bne, this]
        have HIN : Hid (p + 1 + ((s.data.toList.drop (p + 1)).takeWhile (· != c)).length = n) := by
          show _ = _; rw [← hin', if_pos hne, List.length_cons]; omega
        clear hin hin' hc hne
        go_wp2_with fail
        go_roundw
        case rel => exact ⟨p + 1, by omega, by go_num, HIN.out, hbel.out⟩
        case measure => simp [intOf]; omega
    · have HIN : Hid (p = n) := by
        show _ = _
        rw [← hin.out, List.drop_eq_nil_of_le (by rw [HL.out]; omega)]; rfl
      have j1 : (s.size : Int) ≤ (p : Int) := by omega
      clear hin
      go_wp2_with fail
      go_ret
      exact ⟨by rw [← HIN.out]; rfl, hbel.out⟩


set_option maxRecDepth 100000 in
set_option maxHeartbeats 4000000 in
theorem rword_any (s : ByteArray) (p0 : Nat) (w : World) (hp : p0 ≤ s.size) (hs : s.size ≤ 1000000000) (n : Nat) (hn : Hid (p0 + (wordL (s.data.toList.drop p0)).length = n)) :
    Calls Try.prog 88 #[.string s, .int .i64 p0] w (Ret w (.int .i64 n)) := by
  have HL := Lib.hid (size_toList s)
  go_enter Try.func88, Try.ntmps88
  go_wp2_with fail
  go_loopw [1] (fun i wr => ∃ (p : Nat), p ≤ s.size ∧ i = .int .i64 (p : Int) ∧ Hid (p + (wordL (s.data.toList.drop p)).length = n) ∧ Hid (Below w.heap.size w wr)) (fun i _ => s.size - (intOf i).toNat)
  case atStart => exact ⟨p0, hp, rfl, hn.out, Below.refl _ _⟩
  case round =>
    obtain ⟨p, hps, rfl, hin, hbel⟩ := hrel
    by_cases hlt : p < s.size
    · obtain ⟨x, HX⟩ : ∃ x, Hid (s.data.toList[p]? = some x) := ⟨s.data.toList[p]'(by have := HL.out; omega), List.getElem?_eq_getElem _⟩
      have hsx : s[p] = x := getk_of s p x HX.out hlt
      have hin' := hin.out
      rw [drop_cons HX.out, wordL_cons] at hin'
      have j0 : (0 : Int) ≤ (p : Int) := by omega
      have j1 : (p : Int) < s.size := by omega
      obtain ⟨bv, hbv⟩ : ∃ bv, Hid (blankB x = bv) := ⟨_, rfl⟩
      cases bv with
      | true =>
        have hnb : nb x = false := by
          have h := hbv.out
          unfold blankB at h
          simp only [Bool.or_eq_true, beq_iff_eq] at h
          rcases h with (rfl | rfl) | rfl <;> decide
        have HIN : Hid (p = n) := by show _ = _; rw [← hin', hnb]; simp
        clear hin hin'
        go_wp2_with fail
        refine (rblank_any x wr).mono ?_
        rintro e w2 ⟨he, hb2⟩
        rw [hbv.out] at he
        subst he
        go_wp2_with fail
        go_ret
        exact ⟨by rw [← HIN.out]; rfl, hbel.out.trans (hb2.mono hbel.out.size)⟩
      | false =>
        by_cases h61 : x = 61
        · subst h61
          have HIN : Hid (p = n) := by show _ = _; rw [← hin', show nb 61 = false from by decide]; simp
          clear hin hin'
          go_wp2_with fail
          refine (rblank_any 61 wr).mono ?_
          rintro e w2 ⟨he, hb2⟩
          rw [show blankB 61 = false from by decide] at he
          subst he
          go_wp2_with fail
          go_ret
          exact ⟨by rw [← HIN.out]; rfl, hbel.out.trans (hb2.mono hbel.out.size)⟩
        by_cases h62 : x = 62
        · subst h62
          have HIN : Hid (p = n) := by show _ = _; rw [← hin', show nb 62 = false from by decide]; simp
          clear hin hin' h61
          go_wp2_with fail
          refine (rblank_any 62 wr).mono ?_
          rintro e w2 ⟨he, hb2⟩
          rw [show blankB 62 = false from by decide] at he
          subst he
          go_wp2_with fail
          go_ret
          exact ⟨by rw [← HIN.out]; rfl, hbel.out.trans (hb2.mono hbel.out.size)⟩
        by_cases h60 : x = 60
        · subst h60
          have HIN : Hid (p = n) := by show _ = _; rw [← hin', show nb 60 = false from by decide]; simp
          clear hin hin' h61 h62
          go_wp2_with fail
          refine (rblank_any 60 wr).mono ?_
          rintro e w2 ⟨he, hb2⟩
          rw [show blankB 60 = false from by decide] at he
          subst he
          go_wp2_with fail
          go_ret
          exact ⟨by rw [← HIN.out]; rfl, hbel.out.trans (hb2.mono hbel.out.size)⟩
        by_cases h47 : x = 47
        · subst h47
          have HIN : Hid (p = n) := by show _ = _; rw [← hin', show nb 47 = false from by decide]; simp
          clear hin hin' h61 h62 h60
          go_wp2_with fail
          refine (rblank_any 47 wr).mono ?_
          rintro e w2 ⟨he, hb2⟩
          rw [show blankB 47 = false from by decide] at he
          subst he
          go_wp2_with fail
          go_ret
          exact ⟨by rw [← HIN.out]; rfl, hbel.out.trans (hb2.mono hbel.out.size)⟩
        by_cases h34 : x = 34
        · subst h34
          have HIN : Hid (p = n) := by show _ = _; rw [← hin', show nb 34 = false from by decide]; simp
          clear hin hin' h61 h62 h60 h47
          go_wp2_with fail
          refine (rblank_any 34 wr).mono ?_
          rintro e w2 ⟨he, hb2⟩
          rw [show blankB 34 = false from by decide] at he
          subst he
          go_wp2_with fail
          go_ret
          exact ⟨by rw [← HIN.out]; rfl, hbel.out.trans (hb2.mono hbel.out.size)⟩
        have hnb : nb x = true := by
          have h := hbv.out
          unfold blankB at h
          simp only [Bool.or_eq_false_iff, beq_eq_false_iff_ne] at h
          unfold nb
          simp [h.1.1, h.1.2, h.2, h61, h62, h60, h47, h34]
        have HIN : Hid (p + 1 + (wordL (s.data.toList.drop (p + 1))).length = n) := by show _ = _; rw [← hin', hnb, if_pos rfl, List.length_cons]; omega
        have e61 : ((x.toNat : Int) != 61) = true := by have : ((x.toNat : Int) == 61) = false := u8_ne h61; simp [bne, this]
        have e62 : ((x.toNat : Int) != 62) = true := by have : ((x.toNat : Int) == 62) = false := u8_ne h62; simp [bne, this]
        have e60 : ((x.toNat : Int) != 60) = true := by have : ((x.toNat : Int) == 60) = false := u8_ne h60; simp [bne, this]
        have e47 : ((x.toNat : Int) != 47) = true := by have : ((x.toNat : Int) == 47) = false := u8_ne h47; simp [bne, this]
        have e34 : ((x.toNat : Int) != 34) = true := by have : ((x.toNat : Int) == 34) = false := u8_ne h34; simp [bne, this]
        clear hin hin' hnb h61 h62 h60 h47 h34
        go_wp2_with fail
        refine (rblank_any x wr).mono ?_
        rintro e w2 ⟨he, hb2⟩
        rw [hbv.out] at he
        subst he
        go_wp2_with fail
        go_roundw
        case rel => exact ⟨p + 1, by omega, by go_num, HIN.out, hbel.out.trans (hb2.mono hbel.out.size)⟩
        case measure => simp [intOf]; omega
    · have HIN : Hid (p = n) := by
        show _ = _
        rw [← hin.out, List.drop_eq_nil_of_le (by rw [HL.out]; omega)]; rfl
      have j1 : (s.size : Int) ≤ (p : Int) := by omega
      clear hin
      go_wp2_with fail
      go_ret
      exact ⟨by rw [← HIN.out]; rfl, hbel.out⟩
end Go.Proofs.Ythifddkmbjnncaa

/-
  The document's way to read a reference comes to the same: no program in sight.
-/
namespace Go.Proofs.Ythifddkmbjnncaa

def numF (base : Int) (c : Int) (ds : List UInt8) : Int := ds.foldl (fun c x => c * base + digitV base x.toNat) c
def digs (base : Int) (ds : List UInt8) : Bool := ds.all (fun x => decide (0 ≤ digitV base x.toNat))
/-- the number of digits; below 0: they are none -/
def numR (base : Int) (ds : List UInt8) : Int := if digs base ds = true ∧ 1 ≤ ds.length ∧ ds.length ≤ 7 then numF base 0 ds else -1

def no59 (x : UInt8) : Bool := x != 59
/-- the place of the first semicolon, in the first 12 bytes -/
def endRf (l : List UInt8) : Nat := ((l.take 12).takeWhile no59).length

def refR (l : List UInt8) : Int × Nat :=
  if pre [38, 97, 109, 112, 59] l then (38, 5)
  else if pre [38, 108, 116, 59] l then (60, 4)
  else if pre [38, 103, 116, 59] l then (62, 4)
  else if pre [38, 113, 117, 111, 116, 59] l then (34, 6)
  else if pre [38, 97, 112, 111, 115, 59] l then (39, 6)
  else
    let e := endRf l
    if e = l.length ∨ e = 12 ∨ pre [38, 35] l = false then (0, 0)
    else
      let n := if pre [38, 35, 120] l then numR 16 ((l.take e).drop 3) else numR 10 ((l.take e).drop 2)
      if n < 0 then (0, 0) else (n, e + 1)

theorem scan_spec (base : Int) : ∀ (r : List UInt8) (k : Nat) (c : Int), k ≤ 7 →
    scanL base k c r = if (r.takeWhile no59).length < r.length ∧ digs base (r.takeWhile no59) = true ∧ 1 ≤ k + (r.takeWhile no59).length ∧ k + (r.takeWhile no59).length ≤ 7 then some (numF base c (r.takeWhile no59), k + (r.takeWhile no59).length) else none := by
  have d59 : digitV base ((59 : UInt8).toNat) = -1 := by
    show digitV base 59 = -1
    unfold digitV
    repeat (first | split | omega)
  intro r
  induction r with
  | nil => intro k c hk; simp [scanL]
  | cons x r ih =>
    intro k c hk
    by_cases hx : x = 59
    · subst hx
      have ht : ((59 : UInt8) :: r).takeWhile no59 = [] := by simp [List.takeWhile, no59]
      rw [ht]
      simp only [scanL, d59]
      by_cases h0 : 0 < k
      · rw [if_pos ⟨trivial, h0⟩, if_pos ⟨by simp, rfl, by simp; omega, by simpa using hk⟩]; rfl
      · rw [if_neg (fun h => h0 h.2), if_pos (.inl (by decide)), if_neg (fun h => h0 (by have := h.2.2.1; simp at this; omega))]
    · have hn : no59 x = true := by unfold no59; simpa using hx
      have ht : (x :: r).takeWhile no59 = x :: r.takeWhile no59 := by rw [List.takeWhile_cons, if_pos hn]
      rw [ht]
      simp only [scanL]
      rw [if_neg (fun h => hx h.1)]
      have hd : digs base (x :: r.takeWhile no59) = (decide (0 ≤ digitV base x.toNat) && digs base (r.takeWhile no59)) := rfl
      by_cases hdk : digitV base x.toNat < 0 ∨ 7 ≤ k
      · rw [if_pos hdk, if_neg]
        rintro ⟨_, h2, _, h4⟩
        rw [hd, Bool.and_eq_true] at h2
        have := of_decide_eq_true h2.1
        simp only [List.length_cons] at h4
        omega
      · rw [if_neg hdk, ih (k + 1) _ (by omega)]
        have e1 : k + 1 + (r.takeWhile no59).length = k + (x :: r.takeWhile no59).length := by simp; omega
        have hdx : decide (0 ≤ digitV base x.toNat) = true := decide_eq_true (by omega)
        have hf : numF base (c * base + digitV base x.toNat) (r.takeWhile no59) = numF base c (x :: r.takeWhile no59) := rfl
        rw [e1, hf, hd, hdx, Bool.true_and]
        congr 1
        simp only [List.length_cons, Nat.add_lt_add_iff_right]

theorem numF_nonneg (base : Int) (hb : 0 ≤ base) : ∀ (ds : List UInt8) (c : Int), 0 ≤ c → digs base ds = true → 0 ≤ numF base c ds := by
  intro ds
  induction ds with
  | nil => intro c hc _; exact hc
  | cons x ds ih =>
    intro c hc h
    have hd : digs base (x :: ds) = (decide (0 ≤ digitV base x.toNat) && digs base ds) := rfl
    rw [hd, Bool.and_eq_true] at h
    have := of_decide_eq_true h.1
    have hm := Int.mul_nonneg hc hb
    exact ih (c * base + digitV base x.toNat) (by omega) h.2

theorem takeWhile_take (p : UInt8 → Bool) : ∀ (l : List UInt8) (n : Nat), ((l.take n).takeWhile p).length = min n (l.takeWhile p).length := by
  intro l
  induction l with
  | nil => intro n; simp
  | cons x l ih =>
    intro n
    cases n with
    | zero => simp
    | succ n =>
      rw [List.take_succ_cons]
      simp only [List.takeWhile]
      cases p x with
      | true => simp only [List.length_cons, ih]; omega
      | false => simp

/-- the number's part, from one place on -/
theorem ref_num (base : Int) (hb : 0 ≤ base) (hd l : List UInt8) (r : List UInt8) (hl : l = hd ++ r) (h59 : hd.takeWhile no59 = hd) (hle : hd.length ≤ 3) (b0 : Bool) (hb0 : b0 = true) :
    pick hd.length (scanL base 0 0 r) = if endRf l = l.length ∨ endRf l = 12 ∨ b0 = false then (0, 0) else if numR base ((l.take (endRf l)).drop hd.length) < 0 then (0, 0) else (numR base ((l.take (endRf l)).drop hd.length), endRf l + 1) := by
  subst hb0
  have htw : l.takeWhile no59 = hd ++ r.takeWhile no59 := by
    rw [hl]
    rw [List.takeWhile_append, if_pos (by rw [h59])]
  have he : endRf l = min 12 (hd.length + (r.takeWhile no59).length) := by
    unfold endRf; rw [takeWhile_take, htw, List.length_append]
  have hll : l.length = hd.length + r.length := by rw [hl, List.length_append]
  have hdr : (r.takeWhile no59).length ≤ r.length := (List.takeWhile_sublist _).length_le
  rw [scan_spec base r 0 0 (by omega)]
  generalize hds : r.takeWhile no59 = ds at *
  by_cases h12 : 12 ≤ hd.length + ds.length
  · rw [if_neg (by omega), if_pos (.inr (.inl (by omega)))]; rfl
  · have he' : endRf l = hd.length + ds.length := by omega
    rw [he']
    by_cases hend : ds.length = r.length
    · rw [if_neg (by omega), if_pos (.inl (by omega))]; rfl
    · have hxs : (l.take (hd.length + ds.length)).drop hd.length = ds := by
        rw [hl, List.take_append, List.drop_append]
        have e1 : (hd.take (hd.length + ds.length)).drop hd.length = [] := by
          rw [List.take_of_length_le (by omega)]; exact List.drop_length
        rw [e1, List.take_of_length_le (l := hd) (by omega), Nat.sub_self, List.drop_zero, Nat.add_sub_cancel_left, List.nil_append, ← hds]
        exact (List.prefix_iff_eq_take.1 (List.takeWhile_prefix _)).symm
      rw [if_neg (c := hd.length + ds.length = l.length ∨ _) (by simp; omega), hxs]
      unfold numR
      by_cases hg : digs base ds = true ∧ 1 ≤ ds.length ∧ ds.length ≤ 7
      · rw [if_pos ⟨by omega, hg.1, by omega, by omega⟩, if_pos hg]
        have := numF_nonneg base hb ds 0 (Int.le_refl _) hg.1
        rw [if_neg (by omega)]
        simp [pick]
      · rw [if_neg (fun h => hg ⟨h.2.1, by omega, by omega⟩), if_neg hg]; rfl

theorem refR_eq (l : List UInt8) : refR l = refL l := by
  unfold refR refL
  split
  · rfl
  split
  · rfl
  split
  · rfl
  split
  · rfl
  split
  · rfl
  by_cases h5 : pre [38, 35] l = true
  · rw [if_pos h5]
    have hsplit : ∀ p, pre p l = true → l = p ++ l.drop p.length := fun p hp => by
      have := eq_of_beq hp
      conv => lhs; rw [← List.take_append_drop p.length l, this]
    by_cases h6 : pre [38, 35, 120] l = true
    · simp only [if_pos h6]
      exact (ref_num 16 (by decide) [38, 35, 120] l _ (hsplit _ h6) (by decide) (by decide) _ h5).symm
    · simp only [if_neg h6]
      exact (ref_num 10 (by decide) [38, 35] l _ (hsplit _ h5) (by decide) (by decide) _ h5).symm
  · have h5' : pre [38, 35] l = false := by simpa using h5
    rw [if_neg h5]
    simp only [h5', or_true, if_true]

theorem numF_lt (base : Int) (hb0 : 0 ≤ base) (hb : base ≤ 16) : ∀ (ds : List UInt8) (c : Int) (k : Nat), 0 ≤ c → c < 16 ^ k → digs base ds = true → numF base c ds < 16 ^ (k + ds.length) := by
  intro ds
  induction ds with
  | nil => intro c k _ h _; exact h
  | cons x ds ih =>
    intro c k hc h hd
    have hd' : digs base (x :: ds) = (decide (0 ≤ digitV base x.toNat) && digs base ds) := rfl
    rw [hd', Bool.and_eq_true] at hd
    have h0 := of_decide_eq_true hd.1
    have h16 := (digitV_bd base x.toNat).2
    have hm := Int.mul_nonneg hc hb0
    have hm2 : c * base ≤ c * 16 := Int.mul_le_mul_of_nonneg_left hb hc
    have := ih (c * base + digitV base x.toNat) (k + 1) (by omega) (by rw [Int.pow_succ]; omega) hd.2
    have e : k + 1 + ds.length = k + (x :: ds).length := by simp; omega
    rw [e] at this
    exact this

theorem refL_bd (l : List UInt8) : 0 ≤ (refL l).1 ∧ (refL l).1 < 2147483648 := by
  have key : ∀ n base r, 0 ≤ base → base ≤ 16 → 0 ≤ (pick n (scanL base 0 0 r)).1 ∧ (pick n (scanL base 0 0 r)).1 < 2147483648 := by
    intro n base r h0 h1
    rw [scan_spec base r 0 0 (by omega)]
    split
    · rename_i h
      obtain ⟨_, hd, _, h7⟩ := h
      have h2 := numF_nonneg base h0 _ 0 (Int.le_refl _) hd
      have h3 := numF_lt base h0 h1 _ 0 0 (Int.le_refl _) (by decide) hd
      have h4 : (16 : Int) ^ (0 + (r.takeWhile no59).length) ≤ 268435456 := by
        generalize (r.takeWhile no59).length = m at *
        rcases (by omega : m = 0 ∨ m = 1 ∨ m = 2 ∨ m = 3 ∨ m = 4 ∨ m = 5 ∨ m = 6 ∨ m = 7) with rfl | rfl | rfl | rfl | rfl | rfl | rfl | rfl <;> decide
      simp only [pick]
      omega
    · simp [pick]
  unfold refL
  split
  · simp
  split
  · simp
  split
  · simp
  split
  · simp
  split
  · simp
  split
  · split
    · exact key 3 16 _ (by decide) (by decide)
    · exact key 2 10 _ (by decide) (by decide)
  · simp
end Go.Proofs.Ythifddkmbjnncaa

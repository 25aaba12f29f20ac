/-
  The walks of the document's Char, six and Put.
-/
import Derived.Test.YthifddkmbjnncaaLaid
namespace Go.Proofs.Ythifddkmbjnncaa
open Go.RowKit

/-! The document's Char and Put. -/
set_option maxHeartbeats 1000000 in
theorem RChar_any (c : Int) (w : World) :
    Calls Try.prog 136 #[.int .i32 c] w fun e w' => e = .returned (.bool (charB c)) ∧ w = w' := by
  go_enter Try.func136, Try.ntmps136
  go_wp2
  all_goals go_ret
  all_goals (refine ⟨congrArg (fun b => Ending.returned (.bool b)) ?_, rfl⟩; rw [Bool.eq_iff_iff]; simp [charB]; try omega)

set_option maxHeartbeats 400000 in
theorem six_any (c f : Int) (w : World) (h0 : 0 ≤ c) (h1 : c ≤ 1114111) (hf : 1 ≤ f) (hf1 : f ≤ 4096) :
    Calls Try.prog 137 #[.int .i32 c, .int .i32 f] w fun e w' => e = .returned (.int .u8 (128 + c / f % 64)) ∧ w = w' := by
  have hd0 : 0 ≤ c / f := Int.ediv_nonneg h0 (by omega)
  have hd1 : c / f ≤ c := Int.ediv_le_self _ h0
  have hb : 0 ≤ c / f % 64 ∧ c / f % 64 < 64 := by omega
  obtain ⟨hb0, hb1⟩ := hb
  go_enter Try.func137, Try.ntmps137
  go_wp2
  go_ret
  refine ⟨?_, rfl⟩
  rfl

set_option maxHeartbeats 1000000 in
theorem RPut_any (c : Int) (w : World) :
    Calls Try.prog 114 #[.int .i32 c] w (Ret w (.tuple #[.string ⟨(putF c).toArray⟩, .bool (charB c)])) := by
  by_cases hc : charB c = true
  · have hp : putF c = enc c := by unfold putF; rw [if_pos hc]
    have hr : 0 ≤ c ∧ c ≤ 1114111 := by simp [charB] at hc; omega
    obtain ⟨hr0, hr1⟩ := hr
    have HP := Lib.hid hp
    clear hp
    rcases (by omega : c < 128 ∨ (128 ≤ c ∧ c < 2048) ∨ (2048 ≤ c ∧ c < 65536) ∨ 65536 ≤ c) with h | ⟨h, h'⟩ | ⟨h, h'⟩ | h
    · have hx : (#[Value.int .u8 (c)] : Array Value).toList = Lib.byteCells (enc c) := by
        unfold enc; rw [if_pos (by omega)]; simp only [Lib.byteCells, List.map_cons, List.map_nil]
        simp only [bt_toNat (c) (by omega) (by omega)]
      have hln : (enc c).length = 1 := by unfold enc; rw [if_pos (by omega)]; rfl
      have hcv := run_string_lit (P := Try.prog) (enc c) _ hx (by rw [hln]; decide) Try.underlying78 Try.underlying5 Try.underlying9
      rw [hln] at hcv
      clear hx hln
      go_enter Try.func114, Try.ntmps114
      go_wp2_with (first
        | (go_at_call 136; refine (RChar_any _ _).mono ?_; rintro e w' ⟨rfl, rfl⟩)
        | (go_at_call 137; refine (six_any _ _ _ (by omega) (by omega) (by omega) (by omega)).mono ?_; rintro e w' ⟨rfl, rfl⟩))
      go_ret2
      exact ⟨by rw [HP.out, hc]; rfl, (Below.refl _ _).alloc (Nat.le_refl _) _⟩
    · have hx : (#[Value.int .u8 (192 + c / 64), Value.int .u8 (128 + c % 64)] : Array Value).toList = Lib.byteCells (enc c) := by
        unfold enc; rw [if_neg (by omega), if_pos (by omega)]; simp only [Lib.byteCells, List.map_cons, List.map_nil]
        simp only [bt_toNat (192 + c / 64) (by omega) (by omega), bt_toNat (128 + c % 64) (by omega) (by omega)]
      have hln : (enc c).length = 2 := by unfold enc; rw [if_neg (by omega), if_pos (by omega)]; rfl
      have hcv := run_string_lit (P := Try.prog) (enc c) _ hx (by rw [hln]; decide) Try.underlying78 Try.underlying5 Try.underlying9
      rw [hln] at hcv
      clear hx hln
      go_enter Try.func114, Try.ntmps114
      go_wp2_with (first
        | (go_at_call 136; refine (RChar_any _ _).mono ?_; rintro e w' ⟨rfl, rfl⟩)
        | (go_at_call 137; refine (six_any _ _ _ (by omega) (by omega) (by omega) (by omega)).mono ?_; rintro e w' ⟨rfl, rfl⟩))
      go_ret2
      exact ⟨by rw [HP.out, hc]; rfl, (Below.refl _ _).alloc (Nat.le_refl _) _⟩
    · have hx : (#[Value.int .u8 (224 + c / 4096), Value.int .u8 (128 + c / 64 % 64), Value.int .u8 (128 + c % 64)] : Array Value).toList = Lib.byteCells (enc c) := by
        unfold enc; rw [if_neg (by omega), if_neg (by omega), if_pos (by omega)]; simp only [Lib.byteCells, List.map_cons, List.map_nil]
        simp only [bt_toNat (224 + c / 4096) (by omega) (by omega), bt_toNat (128 + c / 64 % 64) (by omega) (by omega), bt_toNat (128 + c % 64) (by omega) (by omega)]
      have hln : (enc c).length = 3 := by unfold enc; rw [if_neg (by omega), if_neg (by omega), if_pos (by omega)]; rfl
      have hcv := run_string_lit (P := Try.prog) (enc c) _ hx (by rw [hln]; decide) Try.underlying78 Try.underlying5 Try.underlying9
      rw [hln] at hcv
      clear hx hln
      go_enter Try.func114, Try.ntmps114
      go_wp2_with (first
        | (go_at_call 136; refine (RChar_any _ _).mono ?_; rintro e w' ⟨rfl, rfl⟩)
        | (go_at_call 137; refine (six_any _ _ _ (by omega) (by omega) (by omega) (by omega)).mono ?_; rintro e w' ⟨rfl, rfl⟩))
      go_ret2
      exact ⟨by rw [HP.out, hc]; rfl, (Below.refl _ _).alloc (Nat.le_refl _) _⟩
    · have hx : (#[Value.int .u8 (240 + c / 262144), Value.int .u8 (128 + c / 4096 % 64), Value.int .u8 (128 + c / 64 % 64), Value.int .u8 (128 + c % 64)] : Array Value).toList = Lib.byteCells (enc c) := by
        unfold enc; rw [if_neg (by omega), if_neg (by omega), if_neg (by omega)]; simp only [Lib.byteCells, List.map_cons, List.map_nil]
        simp only [bt_toNat (240 + c / 262144) (by omega) (by omega), bt_toNat (128 + c / 4096 % 64) (by omega) (by omega), bt_toNat (128 + c / 64 % 64) (by omega) (by omega), bt_toNat (128 + c % 64) (by omega) (by omega)]
      have hln : (enc c).length = 4 := by unfold enc; rw [if_neg (by omega), if_neg (by omega), if_neg (by omega)]; rfl
      have hcv := run_string_lit (P := Try.prog) (enc c) _ hx (by rw [hln]; decide) Try.underlying78 Try.underlying5 Try.underlying9
      rw [hln] at hcv
      clear hx hln
      go_enter Try.func114, Try.ntmps114
      go_wp2_with (first
        | (go_at_call 136; refine (RChar_any _ _).mono ?_; rintro e w' ⟨rfl, rfl⟩)
        | (go_at_call 137; refine (six_any _ _ _ (by omega) (by omega) (by omega) (by omega)).mono ?_; rintro e w' ⟨rfl, rfl⟩))
      go_ret2
      exact ⟨by rw [HP.out, hc]; rfl, (Below.refl _ _).alloc (Nat.le_refl _) _⟩
  · have hc' : charB c = false := by simpa using hc
    clear hc
    have HP : Hid (putF c = []) := by unfold putF; rw [hc']; rfl
    go_enter Try.func114, Try.ntmps114
    go_wp2_with (go_at_call 136; refine (RChar_any _ _).mono ?_; rintro e w' ⟨rfl, rfl⟩)
    go_ret2
    exact ⟨by rw [HP.out, hc']; rfl, Below.refl _ _⟩
end Go.Proofs.Ythifddkmbjnncaa

/-
  The walk of the law EscapeWrites.
-/
import Derived.Test.YthfdlkafpeadiaaAlive
import Derived.Test.YthfdlkafpeadiaaREsc
namespace Go.Proofs.Ythfdlkafpeadiaa
open Go.RowKit

theorem RText_as (s : ByteArray) (w : World) (hs : s.size ≤ 1000000000) (o : List UInt8) (b : Bool) (h : Hid ((escL false s.data.toList).getD [] = o ∧ (escL false s.data.toList).isSome = b)) :
    Calls Try.prog 15 #[.string s] w (Ret w (.tuple #[.string ⟨o.toArray⟩, .bool b])) := by
  have := RText_any s w hs
  rw [h.out.1, h.out.2] at this
  exact this
theorem RValue_as (s : ByteArray) (w : World) (hs : s.size ≤ 1000000000) (o : List UInt8) (b : Bool) (h : Hid ((escL true s.data.toList).getD [] = o ∧ (escL true s.data.toList).isSome = b)) :
    Calls Try.prog 17 #[.string s] w (Ret w (.tuple #[.string ⟨o.toArray⟩, .bool b])) := by
  have := RValue_any s w hs
  rw [h.out.1, h.out.2] at this
  exact this

/-- both are told, or none -/
theorem esc_both (l : List UInt8) : (∃ a b, (escL false l).getD [] = a ∧ (escL false l).isSome = true ∧ (escL true l).getD [] = b ∧ (escL true l).isSome = true) ∨
    ((escL false l).getD [] = [] ∧ (escL false l).isSome = false ∧ (escL true l).getD [] = [] ∧ (escL true l).isSome = false) := by
  unfold escL
  cases charsL l with
  | none => right; simp
  | some cs => left; simp

set_option maxRecDepth 100000 in
set_option maxHeartbeats 1000000 in
theorem walk_EscapeWrites (s : ByteArray) (w : World) (hs : s.size ≤ maxLen) : Calls Try.prog 5 #[.string s] w (Ret w (.bool true)) := by
  unfold maxLen at hs
  by_cases h : 20000 < s.size
  · go_enter Try.func5, Try.ntmps5
    go_wp2_with (go_at_call 10; refine (alive_any _).mono ?_; rintro e w' ⟨rfl, hb⟩)
    go_ret
    exact ⟨rfl, hb⟩
  · have h' : s.size ≤ 20000 := by omega
    obtain ⟨a, b, x, ha, hb⟩ : ∃ a b x, Hid ((escL false s.data.toList).getD [] = a ∧ (escL false s.data.toList).isSome = x) ∧ Hid ((escL true s.data.toList).getD [] = b ∧ (escL true s.data.toList).isSome = x) ∧ (x = false → a = [] ∧ b = []) := by
      rcases esc_both s.data.toList with ⟨a, b, h1, h2, h3, h4⟩ | ⟨h1, h2, h3, h4⟩
      · exact ⟨a, b, true, ⟨h1, h2⟩, ⟨h3, h4⟩, fun h => by cases h⟩
      · exact ⟨[], [], false, ⟨h1, h2⟩, ⟨h3, h4⟩, fun _ => ⟨rfl, rfl⟩⟩
    obtain ⟨hb, hx⟩ := hb
    cases x
    · obtain ⟨rfl, rfl⟩ := hx rfl
      clear hx
      go_enter Try.func5, Try.ntmps5
      go_wp2_with (first
        | (go_at_call 14; refine (Text_as s _ (by omega) _ _ ha).mono ?_; rintro e w1 ⟨rfl, hb1⟩)
        | (go_at_call 16; refine (Value_as s _ (by omega) _ _ hb).mono ?_; rintro e w3 ⟨rfl, hb3⟩)
        | (go_at_call 15; refine (RText_as s _ (by omega) _ _ ha).mono ?_; rintro e w2 ⟨rfl, hb2⟩)
        | (go_at_call 17; refine (RValue_as s _ (by omega) _ _ hb).mono ?_; rintro e w4 ⟨rfl, hb4⟩)
        | (go_at_call 10; refine (alive_any _).mono ?_; rintro e w5 ⟨rfl, hb5⟩))
      go_ret
      have hz1 := hb1.size; have hz2 := hb2.size; have hz3 := hb3.size; have hz4 := hb4.size
      exact ⟨rfl, ((((hb1.trans (hb2.mono (by omega))).trans (hb3.mono (by omega))).trans (hb4.mono (by omega))).trans (hb5.mono (by omega)))⟩
    · clear hx
      go_enter Try.func5, Try.ntmps5
      go_wp2_with (first
        | (go_at_call 14; refine (Text_as s _ (by omega) _ _ ha).mono ?_; rintro e w1 ⟨rfl, hb1⟩)
        | (go_at_call 16; refine (Value_as s _ (by omega) _ _ hb).mono ?_; rintro e w3 ⟨rfl, hb3⟩)
        | (go_at_call 15; refine (RText_as s _ (by omega) _ _ ha).mono ?_; rintro e w2 ⟨rfl, hb2⟩)
        | (go_at_call 17; refine (RValue_as s _ (by omega) _ _ hb).mono ?_; rintro e w4 ⟨rfl, hb4⟩)
        | (go_at_call 10; refine (alive_any _).mono ?_; rintro e w5 ⟨rfl, hb5⟩))
      go_ret
      have hz1 := hb1.size; have hz2 := hb2.size; have hz3 := hb3.size; have hz4 := hb4.size
      exact ⟨rfl, ((((hb1.trans (hb2.mono (by omega))).trans (hb3.mono (by omega))).trans (hb4.mono (by omega))).trans (hb5.mono (by omega)))⟩
end Go.Proofs.Ythfdlkafpeadiaa

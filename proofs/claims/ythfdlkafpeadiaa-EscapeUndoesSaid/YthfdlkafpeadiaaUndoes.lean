/-
  The walk of the law EscapeUndoes.
-/
import Derived.Test.YthfdlkafpeadiaaAlive
import Derived.Test.YthfdlkafpeadiaaRUndo
namespace Go.Proofs.Ythfdlkafpeadiaa
open Go.RowKit

theorem RUndo_as (s : ByteArray) (v : Bool) (w : World) (hs : s.size ≤ 1000000000) (o : List UInt8) (k : Nat) (e : Int) (h : Hid (undoL v s.data.toList = (o, k, e))) :
    Calls Try.prog 12 #[.string s, .bool v] w (Ret w (.tuple #[.string ⟨o.toArray⟩, .int .i64 (k : Nat), .int .i64 e])) := by
  have := RUndo_any s v w hs
  rw [h.out] at this
  exact this

set_option maxRecDepth 100000 in
set_option maxHeartbeats 1000000 in
theorem walk_EscapeUndoes (s : ByteArray) (v : Bool) (w : World) (hs : s.size ≤ maxLen) : Calls Try.prog 3 #[.string s, .bool v] w (Ret w (.bool true)) := by
  unfold maxLen at hs
  by_cases h : 20000 < s.size
  · go_enter Try.func3, Try.ntmps3
    go_wp2_with (go_at_call 10; refine (alive_any _).mono ?_; rintro e w' ⟨rfl, hb⟩)
    go_ret
    exact ⟨rfl, hb⟩
  · have h' : s.size ≤ 20000 := by omega
    obtain ⟨o, k, e, hu⟩ : ∃ o k e, Hid (undoL v s.data.toList = (o, k, e)) := ⟨_, _, _, rfl⟩
    go_enter Try.func3, Try.ntmps3
    go_wp2_with (first
      | (go_at_call 11; refine (Undo_as s v _ (by omega) o k e hu).mono ?_; rintro e' w1 ⟨rfl, hb1⟩)
      | (go_at_call 12; refine (RUndo_as s v _ (by omega) o k e hu).mono ?_; rintro e' w2 ⟨rfl, hb2⟩)
      | (go_at_call 10; refine (alive_any _).mono ?_; rintro e' w3 ⟨rfl, hb3⟩))
    go_ret
    have hz1 := hb1.size; have hz2 := hb2.size
    exact ⟨rfl, (hb1.trans (hb2.mono (by omega))).trans (hb3.mono (by omega))⟩
end Go.Proofs.Ythfdlkafpeadiaa

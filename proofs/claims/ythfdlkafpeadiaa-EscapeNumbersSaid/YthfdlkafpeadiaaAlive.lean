/-
  The walk of alive; contracts with their answers named.
-/
import Derived.Test.YthfdlkafpeadiaaUndo
namespace Go.Proofs.Ythfdlkafpeadiaa
open Go.RowKit

theorem Text_as (s : ByteArray) (w : World) (hs : s.size ≤ 1099511627776) (o : List UInt8) (b : Bool) (h : Hid ((escL false s.data.toList).getD [] = o ∧ (escL false s.data.toList).isSome = b)) :
    Calls Try.prog 14 #[.string s] w (Ret w (.tuple #[.string ⟨o.toArray⟩, .bool b])) := by
  have := Text_any s w hs
  rw [h.out.1, h.out.2] at this
  exact this
theorem Value_as (s : ByteArray) (w : World) (hs : s.size ≤ 1099511627776) (o : List UInt8) (b : Bool) (h : Hid ((escL true s.data.toList).getD [] = o ∧ (escL true s.data.toList).isSome = b)) :
    Calls Try.prog 16 #[.string s] w (Ret w (.tuple #[.string ⟨o.toArray⟩, .bool b])) := by
  have := Value_any s w hs
  rw [h.out.1, h.out.2] at this
  exact this
theorem Undo_as (s : ByteArray) (v : Bool) (w : World) (hs : s.size ≤ 1099511627776) (o : List UInt8) (k : Nat) (e : Int) (h : Hid (undoL v s.data.toList = (o, k, e))) :
    Calls Try.prog 11 #[.string s, .bool v] w (Ret w (.tuple #[.string ⟨o.toArray⟩, .int .i64 (k : Nat), .int .i64 e])) := by
  have := Undo_any s v w hs
  rw [h.out] at this
  exact this

set_option maxRecDepth 100000 in
set_option maxHeartbeats 1000000 in
theorem alive_any (w : World) : Calls Try.prog 10 #[] w (Ret w (.bool true)) := by
  go_enter Try.func10, Try.ntmps10
  go_wp2_with fail
  refine (Text_as ⟨#[97, 60, 98]⟩ w (by decide) [97, 38, 108, 116, 59, 98] true ?_).mono ?_
  · show _ ∧ _; decide +kernel
  rintro e w1 ⟨rfl, hb1⟩
  go_wp2_with fail
  refine (Undo_as ⟨#[38, 35, 120, 52, 49, 59, 38, 97, 109, 112, 59]⟩ false w1 (by decide) [65, 38] 11 0 ?_).mono ?_
  · show _ = _; decide +kernel
  rintro e w2 ⟨rfl, hb2⟩
  go_wp2_with fail
  refine (Undo_as ⟨#[97, 38, 98, 59]⟩ false w2 (by decide) [] 1 20 ?_).mono ?_
  · show _ = _; decide +kernel
  rintro e w3 ⟨rfl, hb3⟩
  have hz1 := hb1.size; have hz2 := hb2.size
  go_wp2_with fail
  go_ret
  exact ⟨rfl, (hb1.trans (hb2.mono (by omega))).trans (hb3.mono (by omega))⟩
end Go.Proofs.Ythfdlkafpeadiaa

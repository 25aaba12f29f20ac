/-
  The walks of escape.written, escape.escaped, escape.Text and escape.Value.
-/
import Derived.Test.YthifddkmbjnncaaNext
import Derived.Test.YthifddkmbjnncaaEscPlain
import Derived.Test.YthifddkmbjnncaaShelf
import Derived.Outline
namespace Go.Proofs.Ythifddkmbjnncaa
open Go.RowKit

set_option maxRecDepth 100000 in
set_option maxHeartbeats 1000000 in
theorem written_any (c : Int) (v : Bool) (w : World) :
    Calls Try.prog 106 #[.int .i32 c, .bool v] w (Ret w (.string ⟨(writtenL v c).toArray⟩)) := by
  go_enter Try.func106, Try.ntmps106
  go_wp2_with (first | (go_at_call 103; refine (Put_any _ _).mono ?_; rintro e w2 ⟨rfl, hb2⟩) | go_in)
  all_goals go_ret
  all_goals (refine ⟨?_, by first | assumption | exact Below.refl _ _⟩)
  all_goals (simp_all [writtenL])

theorem Next_as (s : ByteArray) (w : World) (hs : s.size ≤ maxLen) (c : Int) (n : Nat) (h : Hid (nextL s.data.toList = (c, n))) :
    Calls Try.prog 77 #[.string s] w (Ret w (.tuple #[.int .i32 c, .int .i64 (n : Nat)])) := by
  have := Next_any s w hs
  rw [h.out] at this
  exact this

set_option maxRecDepth 100000 in
set_option maxHeartbeats 1000000 in
theorem escaped_any (s : ByteArray) (v : Bool) (w : World) (hs : s.size ≤ 1099511627776) :
    Calls Try.prog 86 #[.string s, .bool v] w (Ret w (.tuple #[.string ⟨((escL v s.data.toList).getD []).toArray⟩, .bool (escL v s.data.toList).isSome])) := by
  go_enter Try.func86, Try.ntmps86
  go_wp2_with fail
  go_loopw [0] (fun sv wr => ∃ (t : ByteArray) (acc : List UInt8), sv = .string t ∧ t.size ≤ s.size ∧ Hid (escL v s.data.toList = (escL v t.data.toList).map (acc ++ ·)) ∧ acc.length + 6 * t.size ≤ 6 * s.size ∧
      Lib.IsBuilder 80 5 w.heap.size w.heap.size (Lib.byteCells acc) wr ∧ Below w.heap.size w wr ∧ w.heap.size < wr.heap.size) (fun sv _ => (strOf sv).size)
  case atStart =>
    refine ⟨s, [], rfl, Nat.le_refl _, ?_, by simp, builder_new _ _ _, (Below.refl _ _).alloc (Nat.le_refl _) _, by simp⟩
    show _ = _
    cases escL v s.data.toList <;> simp
  case round =>
    obtain ⟨t, acc, rfl, hts, hesc, hal, hB, hbel, hlt⟩ := hrel
    have hl := size_toList t
    by_cases he : t.toList.isEmpty = true
    · have hnil : t.data.toList = [] := by rw [ByteArray.toList_eq] at he; simpa using he
      have hv : Hid (escL v s.data.toList = some acc) := by
        show _ = _
        rw [hesc.out, hnil, escL_nil]; simp
      go_wp2_with (go_at_call 57; refine (Try.Builder_String _ _ _ _ hB (by omega)).mono ?_; rintro e w2 ⟨rfl, hb2⟩)
      go_ret2
      exact ⟨by rw [hv.out]; rfl, hbel.trans hb2⟩
    · have hne : t.toList.isEmpty = false := by simpa using he
      clear he
      have hnn : Hid (t.data.toList ≠ []) := by
        intro h
        rw [ByteArray.toList_eq, h] at hne
        cases hne
      obtain ⟨c, n, hq⟩ : ∃ c n, Hid (nextL t.data.toList = (c, n)) := ⟨_, _, rfl⟩
      have hle := nextL_le t.data.toList
      rw [hq.out] at hle
      obtain ⟨hn1, hn4⟩ := hle
      rw [hl] at hn1
      simp only at hn1 hn4
      by_cases hn : n = 0
      · have hv : Hid (escL v s.data.toList = none) := by
          show _ = _
          rw [hesc.out, escL_bad v _ hnn.out (by rw [hq.out]; exact hn)]; rfl
        have hn0 : ((n : Int) == 0) = true := by simp [hn]
        clear hn
        go_wp2_with (go_at_call 77; refine (Next_as t wr (by unfold maxLen; omega) c n hq).mono ?_; rintro e w2 ⟨rfl, hb2⟩)
        go_ret2
        exact ⟨by rw [hv.out]; rfl, hbel.trans (hb2.mono (by omega))⟩
      · have hn0 : ((n : Int) == 0) = false := by simp [hn]
        have hesc' := escL_step v t.data.toList hnn.out (by rw [hq.out]; exact hn)
        rw [hq.out] at hesc'
        have HS := Lib.hid hesc'
        clear hesc'
        have hnp : 1 ≤ n := by omega
        clear hn
        have hwl := writtenL_len v c
        go_wp2_with (go_at_call 77; refine (Next_as t wr (by unfold maxLen; omega) c n hq).mono ?_; rintro e w2 ⟨rfl, hb2⟩)
        have hz2 := hb2.size
        go_wp2_with (go_at_call 106; refine (written_any c v w2).mono ?_; rintro e w3 ⟨rfl, hb3⟩)
        have hz3 := hb3.size
        have hB3 := builder_below (builder_below hB hb2) hb3
        go_wp2_with (go_at_call 53; refine (Try.Builder_WriteString _ _ _ _ _ hB3 ?hlen (by omega)).mono ?_)
        case hlen => rw [Lib.byteCells_length]; show acc.length + (writtenL v c).toArray.size ≤ _; simp; omega
        rintro e w4 ⟨rfl, hB4, hb4⟩
        have hz4 := hb4.size
        go_wp2
        go_roundw
        case rel =>
          have hx : (t.extract n t.size).data.toList = t.data.toList.drop n := Lib.extract_to_end t n
          have hxs : (t.extract n t.size).size = t.size - n := by simp
          refine ⟨t.extract n t.size, acc ++ writtenL v c, rfl, by omega, ?_, ?_, ?_, ?_, by omega⟩
          · show _ = _
            rw [hesc.out, HS.out, hx]
            cases escL v (t.data.toList.drop n) <;> simp
          · rw [List.length_append, hxs]; omega
          · rw [Lib.byteCells_append]
            exact .inr hB4
          · exact ((hbel.trans (hb2.mono (by omega))).trans (hb3.mono (by omega))).trans hb4
        case measure =>
          have hxs : (t.extract n t.size).size = t.size - n := by simp
          show (t.extract n t.size).size < t.size
          omega

theorem Text_any (s : ByteArray) (w : World) (hs : s.size ≤ 1099511627776) :
    Calls Try.prog 55 #[.string s] w (Ret w (.tuple #[.string ⟨((escL false s.data.toList).getD []).toArray⟩, .bool (escL false s.data.toList).isSome])) := by
  go_enter Try.func55, Try.ntmps55
  go_wp2_with (go_at_call 86; refine (escaped_any s false w hs).mono ?_; rintro e w2 ⟨rfl, hb2⟩)
  go_ret2
  exact ⟨rfl, hb2⟩

theorem Value_any (s : ByteArray) (w : World) (hs : s.size ≤ 1099511627776) :
    Calls Try.prog 87 #[.string s] w (Ret w (.tuple #[.string ⟨((escL true s.data.toList).getD []).toArray⟩, .bool (escL true s.data.toList).isSome])) := by
  go_enter Try.func87, Try.ntmps87
  go_wp2_with (go_at_call 86; refine (escaped_any s true w hs).mono ?_; rintro e w2 ⟨rfl, hb2⟩)
  go_ret2
  exact ⟨rfl, hb2⟩
end Go.Proofs.Ythifddkmbjnncaa

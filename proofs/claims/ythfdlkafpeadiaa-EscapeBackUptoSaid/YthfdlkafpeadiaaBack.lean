/-
  The walks of glyph.each without conditions, glyph.Count, and the law EscapeBack.
-/
import Derived.Test.YthfdlkafpeadiaaLaws
namespace Go.Proofs.Ythfdlkafpeadiaa
open Go.RowKit

/-- how many characters; -1: the text is not made of such -/
def countL (l : List UInt8) : Int := match charsL l with
  | some cs => cs.length
  | none => -1

set_option maxRecDepth 100000 in
set_option maxHeartbeats 1000000 in
theorem each_none (s : ByteArray) (w : World) (hs : s.size ≤ maxLen) :
    Calls Try.prog 30 #[.string s, .slice none 0 0] w (Ret w (.int .i64 (countL s.data.toList))) := by
  unfold maxLen at hs
  go_enter Try.func30, Try.ntmps30
  go_wp2_with fail
  go_loopw [0, 5] (fun sv mv wr => ∃ (t : ByteArray) (k : Nat), sv = .string t ∧ mv = .int .i64 k ∧ k + t.size ≤ s.size ∧ Hid (charsL s.data.toList = none ↔ charsL t.data.toList = none) ∧ Hid (∀ cs, charsL t.data.toList = some cs → countL s.data.toList = k + cs.length) ∧ Below w.heap.size w wr) (fun sv _ _ => (strOf sv).size)
  case atStart =>
    refine ⟨s, 0, rfl, rfl, by omega, Iff.rfl, ?_, Below.refl _ _⟩
    intro cs hcs
    unfold countL; rw [hcs]; simp
  case round =>
    obtain ⟨t, k, rfl, rfl, hkt, hno, hyes, hbel⟩ := hrel
    have hwr := hbel.size
    have HL := Lib.hid (size_toList t)
    by_cases he : t.toList.isEmpty = true
    · have hnil : t.data.toList = [] := by rw [ByteArray.toList_eq] at he; simpa using he
      have hv : Hid (countL s.data.toList = k) := by
        have := hyes.out [] (by rw [hnil]; rfl)
        show _ = _
        rw [this]; simp
      clear hnil
      go_wp2_with fail
      go_ret
      exact ⟨by rw [hv.out]; rfl, hbel⟩
    · have hne : t.toList.isEmpty = false := by simpa using he
      clear he
      have hnn : Hid (t.data.toList ≠ []) := by
        intro h
        rw [ByteArray.toList_eq, h] at hne
        cases hne
      obtain ⟨c, n, hq⟩ : ∃ c n, Hid (nextL t.data.toList = (c, n)) := ⟨_, _, rfl⟩
      have hle := nextL_le t.data.toList
      rw [hq.out, HL.out] at hle
      obtain ⟨hn1, hn4⟩ := hle
      simp only at hn1 hn4
      by_cases hn : n = 0
      · have hv : Hid (countL s.data.toList = -1) := by
          have := hno.out.2 (charsL_bad _ hnn.out (by rw [hq.out]; exact hn))
          show _ = _
          unfold countL; rw [this]
        have hn0 : ((n : Int) == 0) = true := by simp [hn]
        clear hn
        go_wp2_with (go_at_call 19; refine (Next_as t wr (by unfold maxLen; omega) c n hq).mono ?_; rintro e w2 ⟨rfl, hb2⟩)
        go_ret
        exact ⟨by rw [hv.out]; rfl, hbel.trans (hb2.mono (by omega))⟩
      · have hn0 : ((n : Int) == 0) = false := by simp [hn]
        have hst := charsL_step t.data.toList hnn.out (by rw [hq.out]; exact hn)
        rw [hq.out] at hst
        have HS := Lib.hid hst
        clear hst
        have hnp : 1 ≤ n := by omega
        clear hn
        go_wp2_with fail
        refine (Next_as t wr (by unfold maxLen; omega) c n hq).mono ?_
        rintro e w2 ⟨rfl, hb2⟩
        obtain ⟨wo, rfl⟩ : ∃ wo : World, wo = wr := ⟨_, rfl⟩
        go_wp2_with fail
        refine wp_loop_rounds 1 ?_
        rw [rounds_succ]
        go_wp2_with fail
        go_roundw
        case rel =>
          have hx : (t.extract n t.size).data.toList = t.data.toList.drop n := Lib.extract_to_end t n
          have hxs : (t.extract n t.size).size = t.size - n := by simp
          refine ⟨t.extract n t.size, k + 1, rfl, by go_num, by omega, ?_, ?_, hbel.trans (hb2.mono (by omega))⟩
          · show _ ↔ _
            rw [hno.out, HS.out, hx]
            cases charsL (t.data.toList.drop n) <;> simp
          · intro cs hcs
            rw [hx] at hcs
            have := hyes.out (c :: cs) (by rw [HS.out, hcs]; rfl)
            rw [this, List.length_cons]; omega
        case measure =>
          have hxs : (t.extract n t.size).size = t.size - n := by simp
          show (t.extract n t.size).size < t.size
          omega

theorem Count_any (s : ByteArray) (w : World) (hs : s.size ≤ maxLen) :
    Calls Try.prog 18 #[.string s] w (Ret w (.int .i64 (countL s.data.toList))) := by
  go_enter Try.func18, Try.ntmps18
  go_wp2_with (go_at_call 30; refine (each_none s _ hs).mono ?_; rintro e w2 ⟨rfl, hb2⟩)
  go_ret
  exact ⟨rfl, hb2⟩

theorem Count_as (s : ByteArray) (w : World) (hs : s.size ≤ maxLen) (n : Int) (h : Hid (countL s.data.toList = n)) :
    Calls Try.prog 18 #[.string s] w (Ret w (.int .i64 n)) := by
  have := Count_any s w hs
  rw [h.out] at this
  exact this

theorem esc_count (s : List UInt8) : (∃ a b, Hid (escL false s = some a) ∧ Hid (escL true s = some b)) ∨ (Hid (escL false s = none) ∧ Hid (escL true s = none) ∧ Hid (countL s = -1)) := by
  unfold escL countL
  cases charsL s with
  | none => right; exact ⟨rfl, rfl, rfl⟩
  | some cs => left; exact ⟨_, _, rfl, rfl⟩

set_option maxRecDepth 100000 in
set_option maxHeartbeats 1000000 in
theorem walk_EscapeBack (s : ByteArray) (w : World) (hs : s.size ≤ 1048576) (hm : s.size ≤ maxLen) : Calls Try.prog 9 #[.string s] w (Ret w (.bool true)) := by
  have HM := Lib.hid hm
  clear hm
  have HL := Lib.hid (size_toList s)
  rcases esc_count s.data.toList with ⟨a, b, ha, hb⟩ | ⟨ha, hb, hc⟩
  · have ha' : Hid ((escL false s.data.toList).getD [] = a ∧ (escL false s.data.toList).isSome = true) := by show _ ∧ _; rw [ha.out]; exact ⟨rfl, rfl⟩
    have hb' : Hid ((escL true s.data.toList).getD [] = b ∧ (escL true s.data.toList).isSome = true) := by show _ ∧ _; rw [hb.out]; exact ⟨rfl, rfl⟩
    have hu : Hid (undoL false (⟨a.toArray⟩ : ByteArray).data.toList = (s.data.toList, a.length, 0)) := undo_esc false _ a ha.out
    have hv : Hid (undoL true (⟨b.toArray⟩ : ByteArray).data.toList = (s.data.toList, b.length, 0)) := undo_esc true _ b hb.out
    have hla : a.length ≤ 6291456 := by have := esc_len6 _ _ _ ha.out; rw [HL.out] at this; omega
    have hlb : b.length ≤ 6291456 := by have := esc_len6 _ _ _ hb.out; rw [HL.out] at this; omega
    have hss : (s.data.toList == s.toList) = true := by rw [ByteArray.toList_eq]; simp
    go_enter Try.func9, Try.ntmps9
    go_wp2_with fail
    refine (Text_as s _ (by omega) _ _ ha').mono ?_; rintro e w1 ⟨rfl, hb1⟩
    go_wp2_with fail
    refine (Value_as s _ (by omega) _ _ hb').mono ?_; rintro e w2 ⟨rfl, hb2⟩
    go_wp2_with fail
    refine (Undo_as ⟨a.toArray⟩ false _ (by show a.toArray.size ≤ _; simp; omega) _ _ _ hu).mono ?_; rintro e w3 ⟨rfl, hb3⟩
    go_wp2_with fail
    refine (Undo_as ⟨b.toArray⟩ true _ (by show b.toArray.size ≤ _; simp; omega) _ _ _ hv).mono ?_; rintro e w4 ⟨rfl, hb4⟩
    go_wp2_with (go_at_call 10; refine (alive_any _).mono ?_; rintro e w7 ⟨rfl, hb7⟩)
    go_ret
    have hz1 := hb1.size; have hz2 := hb2.size; have hz3 := hb3.size; have hz4 := hb4.size
    exact ⟨rfl, (((hb1.trans (hb2.mono (by omega))).trans (hb3.mono (by omega))).trans (hb4.mono (by omega))).trans (hb7.mono (by omega))⟩
  · have ha' : Hid ((escL false s.data.toList).getD [] = [] ∧ (escL false s.data.toList).isSome = false) := by show _ ∧ _; rw [ha.out]; exact ⟨rfl, rfl⟩
    have hb' : Hid ((escL true s.data.toList).getD [] = [] ∧ (escL true s.data.toList).isSome = false) := by show _ ∧ _; rw [hb.out]; exact ⟨rfl, rfl⟩
    go_enter Try.func9, Try.ntmps9
    go_wp2_with fail
    refine (Text_as s _ (by omega) _ _ ha').mono ?_; rintro e w1 ⟨rfl, hb1⟩
    go_wp2_with fail
    refine (Value_as s _ (by omega) _ _ hb').mono ?_; rintro e w2 ⟨rfl, hb2⟩
    go_wp2_with (first
      | (go_at_call 10; refine (alive_any _).mono ?_; rintro e w7 ⟨rfl, hb7⟩)
      | (go_at_call 18; refine (Count_as s _ HM.out _ hc).mono ?_; rintro e w8 ⟨rfl, hb8⟩))
    go_ret
    have hz1 := hb1.size; have hz2 := hb2.size; have hz7 := hb7.size
    exact ⟨rfl, ((hb1.trans (hb2.mono (by omega))).trans (hb7.mono (by omega))).trans (hb8.mono (by omega))⟩
end Go.Proofs.Ythfdlkafpeadiaa

/-
  The walks of glyph.each without conditions, glyph.Count, ref01.Count, parse.chars, ref04.chars.
-/
import Derived.Test.YthifddkmbjnncaaEsc
import Derived.Test.YthifddkmbjnncaaREsc
import Derived.Test.YthifddkmbjnncaaItemPlain
namespace Go.Proofs.Ythifddkmbjnncaa
open Go.RowKit

set_option maxRecDepth 100000 in
set_option maxHeartbeats 1000000 in
theorem each_none (s : ByteArray) (w : World) (hs : s.size ≤ maxLen) :
    Calls Try.prog 44 #[.string s, .slice none 0 0] w (Ret w (.int .i64 (countL s.data.toList))) := by
  unfold maxLen at hs
  go_enter Try.func44, Try.ntmps44
  go_wp2_with fail
  go_loopw [0, 5] (fun sv mv wr => ∃ (t : ByteArray) (k : Nat), sv = .string t ∧ mv = .int .i64 k ∧ k + t.size ≤ s.size ∧ Hid (charsL s.data.toList = none ↔ charsL t.data.toList = none) ∧ Hid (∀ cs, charsL t.data.toList = some cs → countL s.data.toList = k + cs.length) ∧ Below w.heap.size w wr) (fun sv _ _ => (strOf sv).size)
  case atStart =>
    refine ⟨s, 0, rfl, rfl, by omega, Iff.rfl, ?_, Below.refl _ _⟩
    intro cs hcs
    unfold countL; rw [hcs]; simp
  case round =>
    obtain ⟨t, k, rfl, rfl, hkt, hno, hyes, hbel⟩ := hrel
    have hwr := hbel.size
    have HL := Lib.hid (size_toList t)
    by_cases he : t.toList.isEmpty = true
    · have hnil : t.data.toList = [] := by rw [ByteArray.toList_eq] at he; simpa using he
      have hv : Hid (countL s.data.toList = k) := by
        have := hyes.out [] (by rw [hnil]; rfl)
        show _ = _
        rw [this]; simp
      clear hnil
      go_wp2_with fail
      go_ret
      exact ⟨by rw [hv.out]; rfl, hbel⟩
    · have hne : t.toList.isEmpty = false := by simpa using he
      clear he
      have hnn : Hid (t.data.toList ≠ []) := by
        intro h
        rw [ByteArray.toList_eq, h] at hne
        cases hne
      obtain ⟨c, n, hq⟩ : ∃ c n, Hid (nextL t.data.toList = (c, n)) := ⟨_, _, rfl⟩
      have hle := nextL_le t.data.toList
      rw [hq.out, HL.out] at hle
      obtain ⟨hn1, hn4⟩ := hle
      simp only at hn1 hn4
      by_cases hn : n = 0
      · have hv : Hid (countL s.data.toList = -1) := by
          have := hno.out.2 (charsL_bad _ hnn.out (by rw [hq.out]; exact hn))
          show _ = _
          unfold countL; rw [this]
        have hn0 : ((n : Int) == 0) = true := by simp [hn]
        clear hn
        go_wp2_with (go_at_call 77; refine (Next_as t wr (by unfold maxLen; omega) c n hq).mono ?_; rintro e w2 ⟨rfl, hb2⟩)
        go_ret
        exact ⟨by rw [hv.out]; rfl, hbel.trans (hb2.mono (by omega))⟩
      · have hn0 : ((n : Int) == 0) = false := by simp [hn]
        have hst := charsL_step t.data.toList hnn.out (by rw [hq.out]; exact hn)
        rw [hq.out] at hst
        have HS := Lib.hid hst
        clear hst
        have hnp : 1 ≤ n := by omega
        clear hn
        go_wp2_with fail
        refine (Next_as t wr (by unfold maxLen; omega) c n hq).mono ?_
        rintro e w2 ⟨rfl, hb2⟩
        obtain ⟨wo, rfl⟩ : ∃ wo : World, wo = wr := ⟨_, rfl⟩
        go_wp2_with fail
        refine wp_loop_rounds 1 ?_
        rw [rounds_succ]
        go_wp2_with fail
        go_roundw
        case rel =>
          have hx : (t.extract n t.size).data.toList = t.data.toList.drop n := Lib.extract_to_end t n
          have hxs : (t.extract n t.size).size = t.size - n := by simp
          refine ⟨t.extract n t.size, k + 1, rfl, by go_num, by omega, ?_, ?_, hbel.trans (hb2.mono (by omega))⟩
          · show _ ↔ _
            rw [hno.out, HS.out, hx]
            cases charsL (t.data.toList.drop n) <;> simp
          · intro cs hcs
            rw [hx] at hcs
            have := hyes.out (c :: cs) (by rw [HS.out, hcs]; rfl)
            rw [this, List.length_cons]; omega
        case measure =>
          have hxs : (t.extract n t.size).size = t.size - n := by simp
          show (t.extract n t.size).size < t.size
          omega

theorem Count_any (s : ByteArray) (w : World) (hs : s.size ≤ maxLen) :
    Calls Try.prog 22 #[.string s] w (Ret w (.int .i64 (countL s.data.toList))) := by
  go_enter Try.func22, Try.ntmps22
  go_wp2_with (go_at_call 44; refine (each_none s _ hs).mono ?_; rintro e w2 ⟨rfl, hb2⟩)
  go_ret
  exact ⟨rfl, hb2⟩

theorem Count_as (s : ByteArray) (w : World) (hs : s.size ≤ maxLen) (n : Int) (h : Hid (countL s.data.toList = n)) :
    Calls Try.prog 22 #[.string s] w (Ret w (.int .i64 n)) := by
  have := Count_any s w hs
  rw [h.out] at this
  exact this


set_option maxRecDepth 100000 in
set_option maxHeartbeats 1000000 in
theorem RCount_as (s : ByteArray) (w : World) (hs : s.size ≤ 1000000000) (n : Int) (h : Hid (countL s.data.toList = n)) :
    Calls Try.prog 132 #[.string s] w (Ret w (.int .i64 n)) := by
  obtain ⟨r, hr⟩ : ∃ r, Hid (charsL s.data.toList = r) := ⟨_, rfl⟩
  have hn := h.out
  unfold countL at hn
  rw [hr.out] at hn
  subst hn
  cases r with
  | none =>
    go_enter Try.func132, Try.ntmps132
    go_wp2_with fail
    refine (RAll_any s w hs).mono ?_
    rw [hr.out]
    rintro e w2 ⟨ad, cp, rfl, hown, hb2⟩
    clear hown
    go_wp2_with fail
    go_ret
    exact ⟨rfl, hb2⟩
  | some cs =>
    go_enter Try.func132, Try.ntmps132
    go_wp2_with fail
    refine (RAll_any s w hs).mono ?_
    rw [hr.out]
    rintro e w2 ⟨ad, cp, rfl, hown, hb2⟩
    clear hown
    go_wp2_with fail
    go_ret
    exact ⟨rfl, hb2⟩

set_option maxRecDepth 100000 in
set_option maxHeartbeats 1000000 in
theorem chars_as (s : ByteArray) (w : World) (hs : s.size ≤ maxLen) (n : Int) (h : Hid (charsE s.data.toList = n)) :
    Calls Try.prog 82 #[.string s] w (Ret w (.int .i64 n)) := by
  obtain ⟨c, hc⟩ : ∃ c, Hid (countL s.data.toList = c) := ⟨_, rfl⟩
  have hn := h.out
  unfold charsE at hn
  rw [hc.out, size_toList] at hn
  by_cases h1 : c < 0
  · have hv : Hid (n = 64) := by show _ = _; rw [← hn, if_pos h1]
    clear hn
    go_enter Try.func82, Try.ntmps82
    go_wp2_with (go_at_call 22; refine (Count_as s _ hs _ hc).mono ?_; rintro e w2 ⟨rfl, hb2⟩)
    go_ret
    exact ⟨by rw [hv.out]; rfl, hb2⟩
  · rw [if_neg h1] at hn
    by_cases h2 : 1500 < s.size
    · have hv : Hid (n = 67) := by show _ = _; rw [← hn, if_pos h2]
      have h2' : (1500 : Int) < s.size := by omega
      clear hn h2
      go_enter Try.func82, Try.ntmps82
      go_wp2_with (go_at_call 22; refine (Count_as s _ hs _ hc).mono ?_; rintro e w2 ⟨rfl, hb2⟩)
      go_ret
      exact ⟨by rw [hv.out]; rfl, hb2⟩
    · have hv : Hid (n = 0) := by show _ = _; rw [← hn, if_neg h2]
      have h2' : (s.size : Int) ≤ 1500 := by omega
      clear hn h2
      go_enter Try.func82, Try.ntmps82
      go_wp2_with (go_at_call 22; refine (Count_as s _ hs _ hc).mono ?_; rintro e w2 ⟨rfl, hb2⟩)
      go_ret
      exact ⟨by rw [hv.out]; rfl, hb2⟩

set_option maxRecDepth 100000 in
set_option maxHeartbeats 1000000 in
theorem rchars_as (s : ByteArray) (w : World) (hs : s.size ≤ 1000000000) (n : Int) (h : Hid (charsE s.data.toList = n)) :
    Calls Try.prog 104 #[.string s] w (Ret w (.int .i64 n)) := by
  obtain ⟨c, hc⟩ : ∃ c, Hid (countL s.data.toList = c) := ⟨_, rfl⟩
  have hn := h.out
  unfold charsE at hn
  rw [hc.out, size_toList] at hn
  by_cases h1 : c < 0
  · have hv : Hid (n = 64) := by show _ = _; rw [← hn, if_pos h1]
    clear hn
    go_enter Try.func104, Try.ntmps104
    go_wp2_with (go_at_call 132; refine (RCount_as s _ hs _ hc).mono ?_; rintro e w2 ⟨rfl, hb2⟩)
    go_ret
    exact ⟨by rw [hv.out]; rfl, hb2⟩
  · rw [if_neg h1] at hn
    by_cases h2 : 1500 < s.size
    · have hv : Hid (n = 67) := by show _ = _; rw [← hn, if_pos h2]
      have h2' : (1500 : Int) < s.size := by omega
      clear hn h2
      go_enter Try.func104, Try.ntmps104
      go_wp2_with (go_at_call 132; refine (RCount_as s _ hs _ hc).mono ?_; rintro e w2 ⟨rfl, hb2⟩)
      go_ret
      exact ⟨by rw [hv.out]; rfl, hb2⟩
    · have hv : Hid (n = 0) := by show _ = _; rw [← hn, if_neg h2]
      have h2' : (s.size : Int) ≤ 1500 := by omega
      clear hn h2
      go_enter Try.func104, Try.ntmps104
      go_wp2_with (go_at_call 132; refine (RCount_as s _ hs _ hc).mono ?_; rintro e w2 ⟨rfl, hb2⟩)
      go_ret
      exact ⟨by rw [hv.out]; rfl, hb2⟩
end Go.Proofs.Ythifddkmbjnncaa

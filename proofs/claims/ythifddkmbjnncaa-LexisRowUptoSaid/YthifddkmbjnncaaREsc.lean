/-
  The walks of the document's All, escaped, Text and Value.
-/
import Derived.Test.YthifddkmbjnncaaRNext
import Derived.Test.YthifddkmbjnncaaUndoPlain
import Derived.Test.YthifddkmbjnncaaEsc
namespace Go.Proofs.Ythifddkmbjnncaa
open Go.RowKit

theorem infoRune : (Try.prog.info? 21).map (fun i => (i.zero, i.size, i.bytes)) = some (some (.int .i32 0), 1, 4) := by kernel_rfl

theorem RNext_as (s : ByteArray) (w : World) (hs : s.size ≤ maxLen) (c : Int) (n : Nat) (h : Hid (nextL s.data.toList = (c, n))) :
    Calls Try.prog 112 #[.string s] w (Ret w (.tuple #[.int .i32 c, .int .i64 (n : Nat)])) := by
  have := RNext_any s w hs
  rw [h.out] at this
  exact this

/-- A list of numbers of the call's own. -/
def OwnRunes (w w' : World) (v : Value) (cs : List Int) : Prop := w'.ownsRow w.heap.size 21 1 v cs.length (cs.map (Value.int .i32))
def AllPost (w : World) (r : Option (List Int)) (e : Ending) (w' : World) : Prop :=
  ∃ ad c, e = .returned (.tuple #[.slice ad (r.getD []).length c, .bool r.isSome]) ∧ OwnRunes w w' (.slice ad (r.getD []).length c) (r.getD []) ∧ Below w.heap.size w w'

set_option maxRecDepth 100000 in
set_option maxHeartbeats 1000000 in
theorem RAll_any (s : ByteArray) (w : World) (hs : s.size ≤ 1000000000) :
    Calls Try.prog 108 #[.string s] w (AllPost w (charsL s.data.toList)) := by
  go_enter Try.func108, Try.ntmps108
  go_wp2_with fail
  go_loopw [0, 4] (fun sv v wr => ∃ (t : ByteArray) (acc : List Int) (ad : Option Addr) (cp : Nat), sv = .string t ∧ v = .slice ad acc.length cp ∧ t.size ≤ s.size ∧ Hid (charsL s.data.toList = (charsL t.data.toList).map (acc ++ ·)) ∧ acc.length + t.size ≤ s.size ∧
      wr.ownsRow w.heap.size 21 1 (.slice ad acc.length cp) acc.length (acc.map (Value.int .i32)) ∧ Below w.heap.size w wr) (fun sv _ _ => (strOf sv).size)
  case atStart =>
    refine ⟨s, [], none, 0, rfl, rfl, Nat.le_refl _, ?_, by simp, World.ownsRow_nil _ _ _ _, Below.refl _ _⟩
    show _ = _
    cases charsL s.data.toList <;> simp
  case round =>
    obtain ⟨t, acc, ad, cp, rfl, rfl, hts, hesc, hal, hown, hbel⟩ := hrel
    have hwz := hbel.size
    have hl := size_toList t
    by_cases he : t.toList.isEmpty = true
    · have hnil : t.data.toList = [] := by rw [ByteArray.toList_eq] at he; simpa using he
      have hv : Hid (charsL s.data.toList = some acc) := by
        show _ = _
        rw [hesc.out, hnil, charsL_nil]; simp
      go_wp2_with fail
      go_ret2
      refine ⟨ad, cp, ?_, ?_, hbel⟩
      · rw [hv.out]; rfl
      · rw [hv.out]; exact hown
    · have hne : t.toList.isEmpty = false := by simpa using he
      clear he
      have hnn : Hid (t.data.toList ≠ []) := by
        intro h
        rw [ByteArray.toList_eq, h] at hne
        cases hne
      obtain ⟨c, n, hq⟩ : ∃ c n, Hid (nextL t.data.toList = (c, n)) := ⟨_, _, rfl⟩
      have hle := nextL_le t.data.toList
      rw [hq.out] at hle
      obtain ⟨hn1, hn4⟩ := hle
      rw [hl] at hn1
      simp only at hn1 hn4
      by_cases hn : n = 0
      · have hv : Hid (charsL s.data.toList = none) := by
          show _ = _
          rw [hesc.out, charsL_bad _ hnn.out (by rw [hq.out]; exact hn)]; rfl
        have hn0 : ((n : Int) == 0) = true := by simp [hn]
        clear hn
        go_wp2_with (go_at_call 112; refine (RNext_as t wr (by unfold maxLen; omega) c n hq).mono ?_; rintro e w2 ⟨rfl, hb2⟩)
        go_ret2
        refine ⟨none, 0, ?_, ?_, hbel.trans (hb2.mono (by omega))⟩
        · rw [hv.out]; rfl
        · rw [hv.out]; exact World.ownsRow_nil _ _ _ _
      · have hn0 : ((n : Int) == 0) = false := by simp [hn]
        have hesc' := charsL_step t.data.toList hnn.out (by rw [hq.out]; exact hn)
        rw [hq.out] at hesc'
        have HS := Lib.hid hesc'
        clear hesc'
        have hnp : 1 ≤ n := by omega
        clear hn
        go_wp2_with fail
        refine (RNext_as t wr (by unfold maxLen; omega) c n hq).mono ?_
        rintro e w2 ⟨rfl, hb2⟩
        have hz2 := hb2.size
        have hown2 := own_below hown hb2
        go_wp2_with (at_builtin; refine append1 rfl (.tmp 16) (.tmp 18) 130 rfl w.heap.size 21 (.int .i32 0) 4 Try.underlying130 infoRune rfl _ _ _ (.int .i32 c) rfl hown2 (by omega) _ rfl (by simp) rfl (by omega) (by omega) ?_)
        intro g cp2 w3 hown3 hb3 hz3
        go_wp2
        go_roundw
        case rel =>
          have hx : (t.extract n t.size).data.toList = t.data.toList.drop n := Lib.extract_to_end t n
          have hxs : (t.extract n t.size).size = t.size - n := by simp
          refine ⟨t.extract n t.size, acc ++ [c], some ⟨g, 0, none⟩, cp2, rfl, ?_, by omega, ?_, ?_, ?_, ?_⟩
          · rw [List.length_append]; rfl
          · show _ = _
            rw [hesc.out, HS.out, hx]
            cases charsL (t.data.toList.drop n) <;> simp
          · rw [List.length_append, hxs]; simp; omega
          · rw [List.length_append, List.map_append]; exact hown3
          · exact (hbel.trans (hb2.mono (by omega))).trans hb3
        case measure =>
          have hxs : (t.extract n t.size).size = t.size - n := by simp
          show (t.extract n t.size).size < t.size
          omega

theorem charsF_len (f : Nat) : ∀ l cs, charsF f l = some cs → cs.length ≤ l.length := by
  induction f with
  | zero =>
    intro l cs h
    simp only [charsF] at h
    split at h
    · injection h with h; subst h; simp
    · cases h
  | succ f ih =>
    intro l cs h
    simp only [charsF] at h
    split at h
    · injection h with h; subst h; simp
    · split at h
      · cases h
      · rename_i hl hn
        cases hr : charsF f (l.drop (nextL l).2) with
        | none => rw [hr] at h; cases h
        | some ds =>
          rw [hr] at h
          injection h with h
          subst h
          have := ih _ _ hr
          have := (nextL_le l).1
          rw [List.length_drop] at *
          simp only [List.length_cons]; omega
theorem charsL_len (l : List UInt8) (cs : List Int) (h : charsL l = some cs) : cs.length ≤ l.length := charsF_len _ l cs h

end Go.Proofs.Ythifddkmbjnncaa

/-
  The walks of the document's All, escaped, Text and Value.
-/
import Derived.Test.YtiopijjlkmpikaaRNext
import Derived.Test.YtiopijjlkmpikaaUndoPlain
import Derived.Test.YtiopijjlkmpikaaEsc
namespace Go.Proofs.Ytiopijjlkmpikaa
open Go.RowKit

theorem infoRune : (Try.prog.info? 21).map (fun i => (i.zero, i.size, i.bytes)) = some (some (.int .i32 0), 1, 4) := by kernel_rfl

theorem RNext_as (s : ByteArray) (w : World) (hs : s.size ≤ maxLen) (c : Int) (n : Nat) (h : Hid (nextL s.data.toList = (c, n))) :
    Calls Try.prog 53 #[.string s] w (Ret w (.tuple #[.int .i32 c, .int .i64 (n : Nat)])) := by
  have := RNext_any s w hs
  rw [h.out] at this
  exact this

/-- A list of numbers of the call's own. -/
def OwnRunes (w w' : World) (v : Value) (cs : List Int) : Prop := w'.ownsRow w.heap.size 21 1 v cs.length (cs.map (Value.int .i32))
def AllPost (w : World) (r : Option (List Int)) (e : Ending) (w' : World) : Prop :=
  ∃ ad c, e = .returned (.tuple #[.slice ad (r.getD []).length c, .bool r.isSome]) ∧ OwnRunes w w' (.slice ad (r.getD []).length c) (r.getD []) ∧ Below w.heap.size w w'

set_option maxRecDepth 100000 in
set_option maxHeartbeats 1000000 in
theorem RAll_any (s : ByteArray) (w : World) (hs : s.size ≤ 1000000000) :
    Calls Try.prog 44 #[.string s] w (AllPost w (charsL s.data.toList)) := by
  go_enter Try.func44, Try.ntmps44
  go_wp2_with fail
  go_loopw [0, 4] (fun sv v wr => ∃ (t : ByteArray) (acc : List Int) (ad : Option Addr) (cp : Nat), sv = .string t ∧ v = .slice ad acc.length cp ∧ t.size ≤ s.size ∧ Hid (charsL s.data.toList = (charsL t.data.toList).map (acc ++ ·)) ∧ acc.length + t.size ≤ s.size ∧
      wr.ownsRow w.heap.size 21 1 (.slice ad acc.length cp) acc.length (acc.map (Value.int .i32)) ∧ Below w.heap.size w wr) (fun sv _ _ => (strOf sv).size)
  case atStart =>
    refine ⟨s, [], none, 0, rfl, rfl, Nat.le_refl _, ?_, by simp, World.ownsRow_nil _ _ _ _, Below.refl _ _⟩
    show _ = _
    cases charsL s.data.toList <;> simp
  case round =>
    obtain ⟨t, acc, ad, cp, rfl, rfl, hts, hesc, hal, hown, hbel⟩ := hrel
    have hwz := hbel.size
    have hl := size_toList t
    by_cases he : t.toList.isEmpty = true
    · have hnil : t.data.toList = [] := by rw [ByteArray.toList_eq] at he; simpa using he
      have hv : Hid (charsL s.data.toList = some acc) := by
        show _ = _
        rw [hesc.out, hnil, charsL_nil]; simp
      go_wp2_with fail
      go_ret2
      refine ⟨ad, cp, ?_, ?_, hbel⟩
      · rw [hv.out]; rfl
      · rw [hv.out]; exact hown
    · have hne : t.toList.isEmpty = false := by simpa using he
      clear he
      have hnn : Hid (t.data.toList ≠ []) := by
        intro h
        rw [ByteArray.toList_eq, h] at hne
        cases hne
      obtain ⟨c, n, hq⟩ : ∃ c n, Hid (nextL t.data.toList = (c, n)) := ⟨_, _, rfl⟩
      have hle := nextL_le t.data.toList
      rw [hq.out] at hle
      obtain ⟨hn1, hn4⟩ := hle
      rw [hl] at hn1
      simp only at hn1 hn4
      by_cases hn : n = 0
      · have hv : Hid (charsL s.data.toList = none) := by
          show _ = _
          rw [hesc.out, charsL_bad _ hnn.out (by rw [hq.out]; exact hn)]; rfl
        have hn0 : ((n : Int) == 0) = true := by simp [hn]
        clear hn
        go_wp2_with (go_at_call 53; refine (RNext_as t wr (by unfold maxLen; omega) c n hq).mono ?_; rintro e w2 ⟨rfl, hb2⟩)
        go_ret2
        refine ⟨none, 0, ?_, ?_, hbel.trans (hb2.mono (by omega))⟩
        · rw [hv.out]; rfl
        · rw [hv.out]; exact World.ownsRow_nil _ _ _ _
      · have hn0 : ((n : Int) == 0) = false := by simp [hn]
        have hesc' := charsL_step t.data.toList hnn.out (by rw [hq.out]; exact hn)
        rw [hq.out] at hesc'
        have HS := Lib.hid hesc'
        clear hesc'
        have hnp : 1 ≤ n := by omega
        clear hn
        go_wp2_with fail
        refine (RNext_as t wr (by unfold maxLen; omega) c n hq).mono ?_
        rintro e w2 ⟨rfl, hb2⟩
        have hz2 := hb2.size
        have hown2 := own_below hown hb2
        go_wp2_with (at_builtin; refine append1 rfl (.tmp 16) (.tmp 18) 66 rfl w.heap.size 21 (.int .i32 0) 4 Try.underlying66 infoRune rfl _ _ _ (.int .i32 c) rfl hown2 (by omega) _ rfl (by simp) rfl (by omega) (by omega) ?_)
        intro g cp2 w3 hown3 hb3 hz3
        go_wp2
        go_roundw
        case rel =>
          have hx : (t.extract n t.size).data.toList = t.data.toList.drop n := Lib.extract_to_end t n
          have hxs : (t.extract n t.size).size = t.size - n := by simp
          refine ⟨t.extract n t.size, acc ++ [c], some ⟨g, 0, none⟩, cp2, rfl, ?_, by omega, ?_, ?_, ?_, ?_⟩
          · rw [List.length_append]; rfl
          · show _ = _
            rw [hesc.out, HS.out, hx]
            cases charsL (t.data.toList.drop n) <;> simp
          · rw [List.length_append, hxs]; simp; omega
          · rw [List.length_append, List.map_append]; exact hown3
          · exact (hbel.trans (hb2.mono (by omega))).trans hb3
        case measure =>
          have hxs : (t.extract n t.size).size = t.size - n := by simp
          show (t.extract n t.size).size < t.size
          omega

theorem charsF_len (f : Nat) : ∀ l cs, charsF f l = some cs → cs.length ≤ l.length := by
  induction f with
  | zero =>
    intro l cs h
    simp only [charsF] at h
    split at h
    · injection h with h; subst h; simp
    · cases h
  | succ f ih =>
    intro l cs h
    simp only [charsF] at h
    split at h
    · injection h with h; subst h; simp
    · split at h
      · cases h
      · rename_i hl hn
        cases hr : charsF f (l.drop (nextL l).2) with
        | none => rw [hr] at h; cases h
        | some ds =>
          rw [hr] at h
          injection h with h
          subst h
          have := ih _ _ hr
          have := (nextL_le l).1
          rw [List.length_drop] at *
          simp only [List.length_cons]; omega
theorem charsL_len (l : List UInt8) (cs : List Int) (h : charsL l = some cs) : cs.length ≤ l.length := charsF_len _ l cs h

set_option maxRecDepth 100000 in
set_option maxHeartbeats 4000000 in
theorem REscaped_true (s : ByteArray) (w : World) (hs : s.size ≤ 1000000000) :
    Calls Try.prog 36 #[.string s, .bool true] w (Ret w (.tuple #[.string ⟨((escL true s.data.toList).getD []).toArray⟩, .bool (escL true s.data.toList).isSome])) := by
  obtain ⟨r, hr⟩ : ∃ r, Hid (charsL s.data.toList = r) := ⟨_, rfl⟩
  have hes : Hid (escL true s.data.toList = r.map (fun cs => cs.flatMap (writtenL true))) := by show _ = _; unfold escL; rw [hr.out]
  obtain ⟨cs, hcs⟩ : ∃ cs, Hid (r.getD [] = cs) := ⟨_, rfl⟩
  obtain ⟨b, hbs⟩ : ∃ b, Hid (r.isSome = b) := ⟨_, rfl⟩
  have hfin : Hid (((escL true s.data.toList).getD [] = cs.flatMap (writtenL true)) ∧ (escL true s.data.toList).isSome = b) := by
    have h1 := hcs.out; have h2 := hbs.out
    show _ ∧ _
    rw [hes.out]
    cases r with
    | none => simp at h1 h2; subst h1; subst h2; exact ⟨rfl, rfl⟩
    | some x => simp at h1 h2; subst h1; subst h2; exact ⟨rfl, rfl⟩
  have hlen : cs.length ≤ s.size := by
    have h1 := hcs.out; have h2 := hr.out
    rw [← size_toList s]
    cases r with
    | none => simp at h1; subst h1; simp
    | some x => simp at h1; subst h1; exact charsL_len _ _ h2
  go_enter Try.func36, Try.ntmps36
  go_wp2_with fail
  refine (RAll_any s w hs).mono ?_
  rw [hr.out]
  rintro e w2 ⟨ad, cp, rfl, hown, hb2⟩
  rw [hcs.out] at hown
  rw [hcs.out, hbs.out]
  have hz2 := hb2.size
  rcases own_shape hown with ⟨rfl, hn0, rfl⟩ | ⟨g, rfl, hg1, hg2⟩
  · have hcn : Hid (cs = []) := List.eq_nil_of_length_eq_zero hn0
    rw [hn0]
    clear hown hn0
    go_wp2_with fail
    refine wp_loop_rounds 1 ?_
    rw [rounds_succ]
    go_wp2_with fail
    go_ret2
    exact ⟨by rw [hfin.out.1, hfin.out.2, hcn.out]; rfl, hb2⟩
  · have HOWN := Lib.hid hown
    clear hown
    go_wp2_with fail
    go_loopw [8, 9] (fun out i wr => ∃ (k : Nat) (acc : List UInt8), k ≤ cs.length ∧ i = .int .i64 k ∧ out = .string ⟨acc.toArray⟩ ∧ Hid (acc = (cs.take k).flatMap (writtenL true)) ∧ acc.length ≤ 6 * k ∧ Below w2.heap.size w2 wr) (fun _ i _ => cs.length - (intOf i).toNat)
    case atStart => exact ⟨0, [], Nat.zero_le _, rfl, rfl, rfl, by simp, Below.refl _ _⟩
    case round =>
      obtain ⟨k, acc, hk, rfl, rfl, hacc, hal, hbel⟩ := hrel
      have hzr := hbel.size
      by_cases hlt : k < cs.length
      · obtain ⟨c, hc⟩ : ∃ c, Hid (cs[k]? = some c) := ⟨cs[k], List.getElem?_eq_getElem _⟩
        have hcell : wr.cell? ⟨g, k, none⟩ = some (.int .i32 c) := by
          rw [hbel.cell (p := ⟨g, k, none⟩) hg2]
          exact own_cell HOWN.out k _ (by rw [List.getElem?_map, hc.out]; rfl)
        have hnext : Hid (acc ++ writtenL true c = (cs.take (k + 1)).flatMap (writtenL true)) := by
          show _ = _
          rw [List.take_add_one, hc.out, hacc.out]; simp
        have hwl := writtenL_len true c
        have hpl := putF_len c
        by_cases h38 : c = 38
        · subst h38
          have hw : Hid (writtenL true 38 = [38, 97, 109, 112, 59]) := by show _ = _; simp [writtenL]
          go_wp2_with fail
          refine (RPut_any _ _).mono ?_
          rintro e w3 ⟨rfl, hb3⟩
          have hcell3 : w3.cell? ⟨g, k, none⟩ = some (.int .i32 38) := by
            rw [hb3.cell (p := ⟨g, k, none⟩) (by show g < _; omega)]; exact hcell
          go_wp2
          go_roundw
          case rel => exact ⟨k + 1, acc ++ writtenL true 38, by omega, by go_num, by rw [hw.out]; exact congrArg Value.string (str_app _ _), hnext, by rw [List.length_append]; omega, hbel.trans (hb3.mono (by omega))⟩
          case measure => simp [intOf]; omega
        by_cases h60 : c = 60
        · subst h60
          have hw : Hid (writtenL true 60 = [38, 108, 116, 59]) := by show _ = _; simp [writtenL]
          go_wp2_with fail
          refine (RPut_any _ _).mono ?_
          rintro e w3 ⟨rfl, hb3⟩
          have hcell3 : w3.cell? ⟨g, k, none⟩ = some (.int .i32 60) := by
            rw [hb3.cell (p := ⟨g, k, none⟩) (by show g < _; omega)]; exact hcell
          go_wp2
          go_roundw
          case rel => exact ⟨k + 1, acc ++ writtenL true 60, by omega, by go_num, by rw [hw.out]; exact congrArg Value.string (str_app _ _), hnext, by rw [List.length_append]; omega, hbel.trans (hb3.mono (by omega))⟩
          case measure => simp [intOf]; omega
        by_cases h62 : c = 62
        · subst h62
          have hw : Hid (writtenL true 62 = [38, 103, 116, 59]) := by show _ = _; simp [writtenL]
          go_wp2_with fail
          refine (RPut_any _ _).mono ?_
          rintro e w3 ⟨rfl, hb3⟩
          have hcell3 : w3.cell? ⟨g, k, none⟩ = some (.int .i32 62) := by
            rw [hb3.cell (p := ⟨g, k, none⟩) (by show g < _; omega)]; exact hcell
          go_wp2
          go_roundw
          case rel => exact ⟨k + 1, acc ++ writtenL true 62, by omega, by go_num, by rw [hw.out]; exact congrArg Value.string (str_app _ _), hnext, by rw [List.length_append]; omega, hbel.trans (hb3.mono (by omega))⟩
          case measure => simp [intOf]; omega
        by_cases h13 : c = 13
        · subst h13
          have hw : Hid (writtenL true 13 = [38, 35, 49, 51, 59]) := by show _ = _; simp [writtenL]
          go_wp2_with fail
          refine (RPut_any _ _).mono ?_
          rintro e w3 ⟨rfl, hb3⟩
          have hcell3 : w3.cell? ⟨g, k, none⟩ = some (.int .i32 13) := by
            rw [hb3.cell (p := ⟨g, k, none⟩) (by show g < _; omega)]; exact hcell
          go_wp2
          go_roundw
          case rel => exact ⟨k + 1, acc ++ writtenL true 13, by omega, by go_num, by rw [hw.out]; exact congrArg Value.string (str_app _ _), hnext, by rw [List.length_append]; omega, hbel.trans (hb3.mono (by omega))⟩
          case measure => simp [intOf]; omega
        by_cases h34 : c = 34
        · subst h34
          have hw : Hid (writtenL true 34 = [38, 113, 117, 111, 116, 59]) := by show _ = _; simp [writtenL]
          go_wp2_with fail
          refine (RPut_any _ _).mono ?_
          rintro e w3 ⟨rfl, hb3⟩
          have hcell3 : w3.cell? ⟨g, k, none⟩ = some (.int .i32 34) := by
            rw [hb3.cell (p := ⟨g, k, none⟩) (by show g < _; omega)]; exact hcell
          go_wp2
          go_roundw
          case rel => exact ⟨k + 1, acc ++ writtenL true 34, by omega, by go_num, by rw [hw.out]; exact congrArg Value.string (str_app _ _), hnext, by rw [List.length_append]; omega, hbel.trans (hb3.mono (by omega))⟩
          case measure => simp [intOf]; omega
        by_cases h9 : c = 9
        · subst h9
          have hw : Hid (writtenL true 9 = [38, 35, 57, 59]) := by show _ = _; simp [writtenL]
          go_wp2_with fail
          refine (RPut_any _ _).mono ?_
          rintro e w3 ⟨rfl, hb3⟩
          have hcell3 : w3.cell? ⟨g, k, none⟩ = some (.int .i32 9) := by
            rw [hb3.cell (p := ⟨g, k, none⟩) (by show g < _; omega)]; exact hcell
          go_wp2
          go_roundw
          case rel => exact ⟨k + 1, acc ++ writtenL true 9, by omega, by go_num, by rw [hw.out]; exact congrArg Value.string (str_app _ _), hnext, by rw [List.length_append]; omega, hbel.trans (hb3.mono (by omega))⟩
          case measure => simp [intOf]; omega
        by_cases h10 : c = 10
        · subst h10
          have hw : Hid (writtenL true 10 = [38, 35, 49, 48, 59]) := by show _ = _; simp [writtenL]
          go_wp2_with fail
          refine (RPut_any _ _).mono ?_
          rintro e w3 ⟨rfl, hb3⟩
          have hcell3 : w3.cell? ⟨g, k, none⟩ = some (.int .i32 10) := by
            rw [hb3.cell (p := ⟨g, k, none⟩) (by show g < _; omega)]; exact hcell
          go_wp2
          go_roundw
          case rel => exact ⟨k + 1, acc ++ writtenL true 10, by omega, by go_num, by rw [hw.out]; exact congrArg Value.string (str_app _ _), hnext, by rw [List.length_append]; omega, hbel.trans (hb3.mono (by omega))⟩
          case measure => simp [intOf]; omega
        have hw : Hid (writtenL true c = putF c) := by show _ = _; simp [writtenL, h38, h60, h62, h13, h34, h9, h10]
        have hb38 : (c == 38) = false := by simp; omega
        have hb60 : (c == 60) = false := by simp; omega
        have hb62 : (c == 62) = false := by simp; omega
        have hb13 : (c == 13) = false := by simp; omega
        have hb34 : (c == 34) = false := by simp; omega
        have hb9 : (c == 9) = false := by simp; omega
        have hb10 : (c == 10) = false := by simp; omega
        clear h38 h60 h62 h13 h34 h9 h10
        go_wp2_with fail
        refine (RPut_any _ _).mono ?_
        rintro e w3 ⟨rfl, hb3⟩
        have hcell3 : w3.cell? ⟨g, k, none⟩ = some (.int .i32 c) := by
          rw [hb3.cell (p := ⟨g, k, none⟩) (by show g < _; omega)]; exact hcell
        go_wp2
        go_roundw
        case rel => exact ⟨k + 1, acc ++ writtenL true c, by omega, by go_num, by rw [hw.out]; exact congrArg Value.string (str_app _ _), hnext, by rw [List.length_append]; omega, hbel.trans (hb3.mono (by omega))⟩
        case measure => simp [intOf]; omega
      · have hk' : k = cs.length := by omega
        have ha : Hid (acc = cs.flatMap (writtenL true)) := by
          have := hacc.out
          rw [hk', List.take_of_length_le (Nat.le_refl _)] at this
          exact this
        clear hk'
        go_wp2_with fail
        go_ret2
        exact ⟨by rw [hfin.out.1, hfin.out.2, ← ha.out]; rfl, hb2.trans (hbel.mono (by omega))⟩

set_option maxRecDepth 100000 in
set_option maxHeartbeats 4000000 in
theorem REscaped_false (s : ByteArray) (w : World) (hs : s.size ≤ 1000000000) :
    Calls Try.prog 36 #[.string s, .bool false] w (Ret w (.tuple #[.string ⟨((escL false s.data.toList).getD []).toArray⟩, .bool (escL false s.data.toList).isSome])) := by
  obtain ⟨r, hr⟩ : ∃ r, Hid (charsL s.data.toList = r) := ⟨_, rfl⟩
  have hes : Hid (escL false s.data.toList = r.map (fun cs => cs.flatMap (writtenL false))) := by show _ = _; unfold escL; rw [hr.out]
  obtain ⟨cs, hcs⟩ : ∃ cs, Hid (r.getD [] = cs) := ⟨_, rfl⟩
  obtain ⟨b, hbs⟩ : ∃ b, Hid (r.isSome = b) := ⟨_, rfl⟩
  have hfin : Hid (((escL false s.data.toList).getD [] = cs.flatMap (writtenL false)) ∧ (escL false s.data.toList).isSome = b) := by
    have h1 := hcs.out; have h2 := hbs.out
    show _ ∧ _
    rw [hes.out]
    cases r with
    | none => simp at h1 h2; subst h1; subst h2; exact ⟨rfl, rfl⟩
    | some x => simp at h1 h2; subst h1; subst h2; exact ⟨rfl, rfl⟩
  have hlen : cs.length ≤ s.size := by
    have h1 := hcs.out; have h2 := hr.out
    rw [← size_toList s]
    cases r with
    | none => simp at h1; subst h1; simp
    | some x => simp at h1; subst h1; exact charsL_len _ _ h2
  go_enter Try.func36, Try.ntmps36
  go_wp2_with fail
  refine (RAll_any s w hs).mono ?_
  rw [hr.out]
  rintro e w2 ⟨ad, cp, rfl, hown, hb2⟩
  rw [hcs.out] at hown
  rw [hcs.out, hbs.out]
  have hz2 := hb2.size
  rcases own_shape hown with ⟨rfl, hn0, rfl⟩ | ⟨g, rfl, hg1, hg2⟩
  · have hcn : Hid (cs = []) := List.eq_nil_of_length_eq_zero hn0
    rw [hn0]
    clear hown hn0
    go_wp2_with fail
    refine wp_loop_rounds 1 ?_
    rw [rounds_succ]
    go_wp2_with fail
    go_ret2
    exact ⟨by rw [hfin.out.1, hfin.out.2, hcn.out]; rfl, hb2⟩
  · have HOWN := Lib.hid hown
    clear hown
    go_wp2_with fail
    go_loopw [8, 9] (fun out i wr => ∃ (k : Nat) (acc : List UInt8), k ≤ cs.length ∧ i = .int .i64 k ∧ out = .string ⟨acc.toArray⟩ ∧ Hid (acc = (cs.take k).flatMap (writtenL false)) ∧ acc.length ≤ 6 * k ∧ Below w2.heap.size w2 wr) (fun _ i _ => cs.length - (intOf i).toNat)
    case atStart => exact ⟨0, [], Nat.zero_le _, rfl, rfl, rfl, by simp, Below.refl _ _⟩
    case round =>
      obtain ⟨k, acc, hk, rfl, rfl, hacc, hal, hbel⟩ := hrel
      have hzr := hbel.size
      by_cases hlt : k < cs.length
      · obtain ⟨c, hc⟩ : ∃ c, Hid (cs[k]? = some c) := ⟨cs[k], List.getElem?_eq_getElem _⟩
        have hcell : wr.cell? ⟨g, k, none⟩ = some (.int .i32 c) := by
          rw [hbel.cell (p := ⟨g, k, none⟩) hg2]
          exact own_cell HOWN.out k _ (by rw [List.getElem?_map, hc.out]; rfl)
        have hnext : Hid (acc ++ writtenL false c = (cs.take (k + 1)).flatMap (writtenL false)) := by
          show _ = _
          rw [List.take_add_one, hc.out, hacc.out]; simp
        have hwl := writtenL_len false c
        have hpl := putF_len c
        by_cases h38 : c = 38
        · subst h38
          have hw : Hid (writtenL false 38 = [38, 97, 109, 112, 59]) := by show _ = _; simp [writtenL]
          go_wp2_with fail
          refine (RPut_any _ _).mono ?_
          rintro e w3 ⟨rfl, hb3⟩
          have hcell3 : w3.cell? ⟨g, k, none⟩ = some (.int .i32 38) := by
            rw [hb3.cell (p := ⟨g, k, none⟩) (by show g < _; omega)]; exact hcell
          go_wp2
          go_roundw
          case rel => exact ⟨k + 1, acc ++ writtenL false 38, by omega, by go_num, by rw [hw.out]; exact congrArg Value.string (str_app _ _), hnext, by rw [List.length_append]; omega, hbel.trans (hb3.mono (by omega))⟩
          case measure => simp [intOf]; omega
        by_cases h60 : c = 60
        · subst h60
          have hw : Hid (writtenL false 60 = [38, 108, 116, 59]) := by show _ = _; simp [writtenL]
          go_wp2_with fail
          refine (RPut_any _ _).mono ?_
          rintro e w3 ⟨rfl, hb3⟩
          have hcell3 : w3.cell? ⟨g, k, none⟩ = some (.int .i32 60) := by
            rw [hb3.cell (p := ⟨g, k, none⟩) (by show g < _; omega)]; exact hcell
          go_wp2
          go_roundw
          case rel => exact ⟨k + 1, acc ++ writtenL false 60, by omega, by go_num, by rw [hw.out]; exact congrArg Value.string (str_app _ _), hnext, by rw [List.length_append]; omega, hbel.trans (hb3.mono (by omega))⟩
          case measure => simp [intOf]; omega
        by_cases h62 : c = 62
        · subst h62
          have hw : Hid (writtenL false 62 = [38, 103, 116, 59]) := by show _ = _; simp [writtenL]
          go_wp2_with fail
          refine (RPut_any _ _).mono ?_
          rintro e w3 ⟨rfl, hb3⟩
          have hcell3 : w3.cell? ⟨g, k, none⟩ = some (.int .i32 62) := by
            rw [hb3.cell (p := ⟨g, k, none⟩) (by show g < _; omega)]; exact hcell
          go_wp2
          go_roundw
          case rel => exact ⟨k + 1, acc ++ writtenL false 62, by omega, by go_num, by rw [hw.out]; exact congrArg Value.string (str_app _ _), hnext, by rw [List.length_append]; omega, hbel.trans (hb3.mono (by omega))⟩
          case measure => simp [intOf]; omega
        by_cases h13 : c = 13
        · subst h13
          have hw : Hid (writtenL false 13 = [38, 35, 49, 51, 59]) := by show _ = _; simp [writtenL]
          go_wp2_with fail
          refine (RPut_any _ _).mono ?_
          rintro e w3 ⟨rfl, hb3⟩
          have hcell3 : w3.cell? ⟨g, k, none⟩ = some (.int .i32 13) := by
            rw [hb3.cell (p := ⟨g, k, none⟩) (by show g < _; omega)]; exact hcell
          go_wp2
          go_roundw
          case rel => exact ⟨k + 1, acc ++ writtenL false 13, by omega, by go_num, by rw [hw.out]; exact congrArg Value.string (str_app _ _), hnext, by rw [List.length_append]; omega, hbel.trans (hb3.mono (by omega))⟩
          case measure => simp [intOf]; omega
        by_cases h34 : c = 34
        · subst h34
          have hw : Hid (writtenL false 34 = putF 34) := by show _ = _; simp [writtenL]
          go_wp2_with fail
          refine (RPut_any _ _).mono ?_
          rintro e w3 ⟨rfl, hb3⟩
          have hcell3 : w3.cell? ⟨g, k, none⟩ = some (.int .i32 34) := by
            rw [hb3.cell (p := ⟨g, k, none⟩) (by show g < _; omega)]; exact hcell
          go_wp2
          go_roundw
          case rel => exact ⟨k + 1, acc ++ writtenL false 34, by omega, by go_num, by rw [hw.out]; exact congrArg Value.string (str_app _ _), hnext, by rw [List.length_append]; omega, hbel.trans (hb3.mono (by omega))⟩
          case measure => simp [intOf]; omega
        by_cases h9 : c = 9
        · subst h9
          have hw : Hid (writtenL false 9 = putF 9) := by show _ = _; simp [writtenL]
          go_wp2_with fail
          refine (RPut_any _ _).mono ?_
          rintro e w3 ⟨rfl, hb3⟩
          have hcell3 : w3.cell? ⟨g, k, none⟩ = some (.int .i32 9) := by
            rw [hb3.cell (p := ⟨g, k, none⟩) (by show g < _; omega)]; exact hcell
          go_wp2
          go_roundw
          case rel => exact ⟨k + 1, acc ++ writtenL false 9, by omega, by go_num, by rw [hw.out]; exact congrArg Value.string (str_app _ _), hnext, by rw [List.length_append]; omega, hbel.trans (hb3.mono (by omega))⟩
          case measure => simp [intOf]; omega
        by_cases h10 : c = 10
        · subst h10
          have hw : Hid (writtenL false 10 = putF 10) := by show _ = _; simp [writtenL]
          go_wp2_with fail
          refine (RPut_any _ _).mono ?_
          rintro e w3 ⟨rfl, hb3⟩
          have hcell3 : w3.cell? ⟨g, k, none⟩ = some (.int .i32 10) := by
            rw [hb3.cell (p := ⟨g, k, none⟩) (by show g < _; omega)]; exact hcell
          go_wp2
          go_roundw
          case rel => exact ⟨k + 1, acc ++ writtenL false 10, by omega, by go_num, by rw [hw.out]; exact congrArg Value.string (str_app _ _), hnext, by rw [List.length_append]; omega, hbel.trans (hb3.mono (by omega))⟩
          case measure => simp [intOf]; omega
        have hw : Hid (writtenL false c = putF c) := by show _ = _; simp [writtenL, h38, h60, h62, h13, h34, h9, h10]
        have hb38 : (c == 38) = false := by simp; omega
        have hb60 : (c == 60) = false := by simp; omega
        have hb62 : (c == 62) = false := by simp; omega
        have hb13 : (c == 13) = false := by simp; omega
        have hb34 : (c == 34) = false := by simp; omega
        have hb9 : (c == 9) = false := by simp; omega
        have hb10 : (c == 10) = false := by simp; omega
        clear h38 h60 h62 h13 h34 h9 h10
        go_wp2_with fail
        refine (RPut_any _ _).mono ?_
        rintro e w3 ⟨rfl, hb3⟩
        have hcell3 : w3.cell? ⟨g, k, none⟩ = some (.int .i32 c) := by
          rw [hb3.cell (p := ⟨g, k, none⟩) (by show g < _; omega)]; exact hcell
        go_wp2
        go_roundw
        case rel => exact ⟨k + 1, acc ++ writtenL false c, by omega, by go_num, by rw [hw.out]; exact congrArg Value.string (str_app _ _), hnext, by rw [List.length_append]; omega, hbel.trans (hb3.mono (by omega))⟩
        case measure => simp [intOf]; omega
      · have hk' : k = cs.length := by omega
        have ha : Hid (acc = cs.flatMap (writtenL false)) := by
          have := hacc.out
          rw [hk', List.take_of_length_le (Nat.le_refl _)] at this
          exact this
        clear hk'
        go_wp2_with fail
        go_ret2
        exact ⟨by rw [hfin.out.1, hfin.out.2, ← ha.out]; rfl, hb2.trans (hbel.mono (by omega))⟩

theorem RText_any (s : ByteArray) (w : World) (hs : s.size ≤ 1000000000) :
    Calls Try.prog 23 #[.string s] w (Ret w (.tuple #[.string ⟨((escL false s.data.toList).getD []).toArray⟩, .bool (escL false s.data.toList).isSome])) := by
  go_enter Try.func23, Try.ntmps23
  go_wp2_with (go_at_call 36; refine (REscaped_false s w hs).mono ?_; rintro e w2 ⟨rfl, hb2⟩)
  go_ret2
  exact ⟨rfl, hb2⟩

theorem RValue_any (s : ByteArray) (w : World) (hs : s.size ≤ 1000000000) :
    Calls Try.prog 37 #[.string s] w (Ret w (.tuple #[.string ⟨((escL true s.data.toList).getD []).toArray⟩, .bool (escL true s.data.toList).isSome])) := by
  go_enter Try.func37, Try.ntmps37
  go_wp2_with (go_at_call 36; refine (REscaped_true s w hs).mono ?_; rintro e w2 ⟨rfl, hb2⟩)
  go_ret2
  exact ⟨rfl, hb2⟩
end Go.Proofs.Ytiopijjlkmpikaa

/-
  Texts of this claim, joined (by a program of the claim's author): Undo, NamePlain, ItemPlain, Items, CheckPlain, Starts, Start, Part, Name, REsc, Count, Names, NormPlain, PrintPlain, DocPlain.
-/
import Derived.Test.YthifddkmbjnncaaJ1
import Derived.Below
import Derived.Laws.OwnMore
import Derived.Deep.AppendLies
import Derived.Deep.Draws
import Derived.Laws.Rows
import Derived.Deep.WholeRow
/-
  The walk of escape.Undo.
-/
namespace Go.Proofs.Ythifddkmbjnncaa
open Go.RowKit

theorem reference_as (s : ByteArray) (w : World) (hs : s.size ≤ maxLen) (c : Int) (n : Nat) (h : Hid (refL s.data.toList = (c, n))) :
    Calls Try.prog 116 #[.string s] w (Ret w (.tuple #[.int .i32 c, .int .i64 (n : Nat)])) := by
  have := reference_any s w hs
  rw [h.out] at this
  exact this

theorem stepL_lt {v : Bool} {l : List UInt8} {c : Int} {n : Nat} (h : nextL l = (c, n)) (hn : 0 < n) (hc : c = 60 ∨ c = 62) : stepL v l = .inl 20 := by
  simp only [stepL, h]; rw [if_pos ⟨hn, hc⟩]
theorem stepL_no {v : Bool} {l : List UInt8} {c : Int} {n : Nat} (h : nextL l = (c, n)) (hn : n = 0) : stepL v l = .inl 21 := by
  simp only [stepL, h]; rw [if_neg (by omega), if_pos (.inl hn)]
theorem stepL_13 {v : Bool} {l : List UInt8} {c : Int} {n : Nat} (h : nextL l = (c, n)) (hc : c = 13 ∨ (v = true ∧ (c = 34 ∨ c = 9 ∨ c = 10))) : stepL v l = .inl 21 := by
  simp only [stepL, h]; rw [if_neg (by omega), if_pos (.inr hc)]
theorem stepL_put {v : Bool} {l : List UInt8} {c : Int} {n : Nat} (h : nextL l = (c, n)) (hn : 0 < n) (h1 : ¬ (c = 60 ∨ c = 62)) (h2 : ¬ (c = 13 ∨ (v = true ∧ (c = 34 ∨ c = 9 ∨ c = 10)))) (h3 : c ≠ 38) :
    stepL v l = if charB c = false then .inl 21 else .inr (putF c, n) := by
  simp only [stepL, h]; rw [if_neg (fun h => h1 h.2), if_neg (by intro h; rcases h with h | h; omega; exact h2 h), if_neg h3, if_neg (by omega)]
theorem stepL_ref {v : Bool} {l : List UInt8} {n : Nat} (h : nextL l = (38, n)) (hn : 0 < n) {c' : Int} {n' : Nat} (hr : refL l = (c', n')) :
    stepL v l = if n' = 0 then .inl 20 else if charB c' = false then .inl 21 else .inr (putF c', n') := by
  simp only [stepL, h, hr]; rw [if_neg (by omega), if_neg (by omega)]; simp only [if_true]

theorem joinU_bad (acc : List UInt8) (k : Nat) (e : Int) (h : e ≠ 0) : joinU acc k ([], 0, e) = ([], k, e) := by simp [joinU, h]

set_option maxRecDepth 100000 in
set_option maxHeartbeats 4000000 in
theorem Undo_true (s : ByteArray) (w : World) (hs : s.size ≤ 1099511627776) (V : List UInt8 × Nat × Int) (hV : Hid (V = undoL true s.data.toList)) :
    Calls Try.prog 96 #[.string s, .bool true] w (Ret w (.tuple #[.string ⟨V.1.toArray⟩, .int .i64 (V.2.1 : Nat), .int .i64 V.2.2])) := by
  go_enter Try.func96, Try.ntmps96
  go_wp2_with fail
  go_loopw [8] (fun av wr => ∃ (k : Nat) (acc : List UInt8), av = .int .i64 k ∧ k ≤ s.size ∧ Hid (V = joinU acc k (undoL true (s.data.toList.drop k))) ∧ acc.length ≤ 4 * k ∧
      Lib.IsBuilder 80 5 w.heap.size w.heap.size (Lib.byteCells acc) wr ∧ Below w.heap.size w wr ∧ w.heap.size < wr.heap.size) (fun av _ => s.size - (intOf av).toNat)
  case atStart =>
    refine ⟨0, [], rfl, Nat.zero_le _, ?_, by simp, builder_new _ _ _, (Below.refl _ _).alloc (Nat.le_refl _) _, by simp⟩
    show _ = _
    rw [hV.out, List.drop_zero, joinU_nil _ (undoL_shape _ _)]
  case round =>
    obtain ⟨k, acc, rfl, hks, hjo, hal, hB, hbel, hlt⟩ := hrel
    have HL := Lib.hid (size_toList s)
    by_cases hend : k < s.size
    · have hx : Hid ((s.extract k s.size).data.toList = s.data.toList.drop k) := Lib.extract_to_end s k
      have hxs : (s.extract k s.size).size = s.size - k := by simp
      have hnn : Hid (s.data.toList.drop k ≠ []) := by
        intro h
        have := congrArg List.length h
        rw [List.length_drop, HL.out] at this
        simp at this; omega
      have hszl : (s.extract k s.size).size ≤ 1099511627776 := by omega
      have HXS := Lib.hid hxs
      clear hxs
      obtain ⟨c, n, hq⟩ : ∃ c n, Hid (nextL (s.extract k s.size).data.toList = (c, n)) := ⟨_, _, rfl⟩
      have hle := nextL_le (s.extract k s.size).data.toList
      rw [hq.out, hx.out, List.length_drop, HL.out] at hle
      obtain ⟨hn1, hn4⟩ := hle
      simp only at hn1 hn4
      by_cases hn : n = 0
      · have hv : Hid (V = ([], k, 21)) := by
          have := stepL_no (v := true) hq.out hn
          rw [hx.out] at this
          show _ = _
          rw [hjo.out, undoL_bad _ _ hnn.out _ this, joinU_bad _ _ _ (by decide)]
        have hn0 : ((n : Int) == 0) = true := by simp [hn]
        have hnz : n ≤ 0 := by omega
        clear hn
        go_wp2_with (go_at_call 77; refine (Next_as (s.extract k s.size) wr (by unfold maxLen; omega) c n hq).mono ?_; rintro e w2 ⟨rfl, hb2⟩)
        go_ret3
        exact ⟨by rw [hv.out]; rfl, hbel.trans (hb2.mono (by omega))⟩
      have hnp : 0 < n := by omega
      have hn0 : ((n : Int) == 0) = false := by simp [hn]
      clear hn
      by_cases hc60 : c = 60
      · subst hc60
        have hv : Hid (V = ([], k, 20)) := by
          have := stepL_lt (v := true) hq.out hnp (.inl rfl)
          rw [hx.out] at this
          show _ = _
          rw [hjo.out, undoL_bad _ _ hnn.out _ this, joinU_bad _ _ _ (by decide)]
        go_wp2_with (go_at_call 77; refine (Next_as (s.extract k s.size) wr (by unfold maxLen; omega) 60 n hq).mono ?_; rintro e w2 ⟨rfl, hb2⟩)
        go_ret3
        exact ⟨by rw [hv.out]; rfl, hbel.trans (hb2.mono (by omega))⟩
      by_cases hc62 : c = 62
      · subst hc62
        have hv : Hid (V = ([], k, 20)) := by
          have := stepL_lt (v := true) hq.out hnp (.inr rfl)
          rw [hx.out] at this
          show _ = _
          rw [hjo.out, undoL_bad _ _ hnn.out _ this, joinU_bad _ _ _ (by decide)]
        go_wp2_with (go_at_call 77; refine (Next_as (s.extract k s.size) wr (by unfold maxLen; omega) 62 n hq).mono ?_; rintro e w2 ⟨rfl, hb2⟩)
        go_ret3
        exact ⟨by rw [hv.out]; rfl, hbel.trans (hb2.mono (by omega))⟩
      by_cases hc13 : c = 13
      · subst hc13
        have hv : Hid (V = ([], k, 21)) := by
          have := stepL_13 (v := true) hq.out (.inl rfl)
          rw [hx.out] at this
          show _ = _
          rw [hjo.out, undoL_bad _ _ hnn.out _ this, joinU_bad _ _ _ (by decide)]
        go_wp2_with (go_at_call 77; refine (Next_as (s.extract k s.size) wr (by unfold maxLen; omega) 13 n hq).mono ?_; rintro e w2 ⟨rfl, hb2⟩)
        go_ret3
        exact ⟨by rw [hv.out]; rfl, hbel.trans (hb2.mono (by omega))⟩
      by_cases hc34 : c = 34
      · subst hc34
        have hv : Hid (V = ([], k, 21)) := by
          have := stepL_13 (v := true) hq.out (.inr ⟨rfl, .inl rfl⟩)
          rw [hx.out] at this
          show _ = _
          rw [hjo.out, undoL_bad _ _ hnn.out _ this, joinU_bad _ _ _ (by decide)]
        go_wp2_with (go_at_call 77; refine (Next_as (s.extract k s.size) wr (by unfold maxLen; omega) 34 n hq).mono ?_; rintro e w2 ⟨rfl, hb2⟩)
        go_ret3
        exact ⟨by rw [hv.out]; rfl, hbel.trans (hb2.mono (by omega))⟩
      by_cases hc9 : c = 9
      · subst hc9
        have hv : Hid (V = ([], k, 21)) := by
          have := stepL_13 (v := true) hq.out (.inr ⟨rfl, .inr (.inl rfl)⟩)
          rw [hx.out] at this
          show _ = _
          rw [hjo.out, undoL_bad _ _ hnn.out _ this, joinU_bad _ _ _ (by decide)]
        go_wp2_with (go_at_call 77; refine (Next_as (s.extract k s.size) wr (by unfold maxLen; omega) 9 n hq).mono ?_; rintro e w2 ⟨rfl, hb2⟩)
        go_ret3
        exact ⟨by rw [hv.out]; rfl, hbel.trans (hb2.mono (by omega))⟩
      by_cases hc10 : c = 10
      · subst hc10
        have hv : Hid (V = ([], k, 21)) := by
          have := stepL_13 (v := true) hq.out (.inr ⟨rfl, .inr (.inr rfl)⟩)
          rw [hx.out] at this
          show _ = _
          rw [hjo.out, undoL_bad _ _ hnn.out _ this, joinU_bad _ _ _ (by decide)]
        go_wp2_with (go_at_call 77; refine (Next_as (s.extract k s.size) wr (by unfold maxLen; omega) 10 n hq).mono ?_; rintro e w2 ⟨rfl, hb2⟩)
        go_ret3
        exact ⟨by rw [hv.out]; rfl, hbel.trans (hb2.mono (by omega))⟩
      by_cases hc38 : c = 38
      · subst hc38
        obtain ⟨c', n', hr⟩ : ∃ c' n', Hid (refL (s.extract k s.size).data.toList = (c', n')) := ⟨_, _, rfl⟩
        have hrl := refL_le (s.extract k s.size).data.toList
        rw [hr.out, hx.out, List.length_drop, HL.out] at hrl
        simp only at hrl
        have hstep := stepL_ref (v := true) hq.out hnp hr.out
        rw [hx.out] at hstep
        by_cases hn' : n' = 0
        · rw [if_pos hn'] at hstep
          have hv : Hid (V = ([], k, 20)) := by
            show _ = _
            rw [hjo.out, undoL_bad _ _ hnn.out _ hstep, joinU_bad _ _ _ (by decide)]
          have hn0' : ((n' : Int) == 0) = true := by simp [hn']
          clear hn' hstep
          go_wp2_with (first | (go_at_call 77; refine (Next_as (s.extract k s.size) wr (by unfold maxLen; omega) 38 n hq).mono ?_; rintro e w2 ⟨rfl, hb2⟩) | (go_at_call 116; refine (reference_as (s.extract k s.size) _ (by unfold maxLen; omega) c' n' hr).mono ?_; rintro e w3 ⟨rfl, hb3⟩) | (go_at_call 103; refine (Put_any _ _).mono ?_; rintro e w4 ⟨rfl, hb4⟩))
          go_ret3
          have hz2 := hb2.size; have hz3 := hb3.size
          exact ⟨by rw [hv.out]; rfl, ((hbel.trans (hb2.mono (by omega))).trans (hb3.mono (by omega))).trans (hb4.mono (by omega))⟩
        rw [if_neg hn'] at hstep
        have hn0' : ((n' : Int) == 0) = false := by simp [hn']
        have hnp' : 0 < n' := by omega
        clear hn'
        by_cases hch : charB c' = false
        · rw [if_pos hch] at hstep
          have hv : Hid (V = ([], k, 21)) := by
            show _ = _
            rw [hjo.out, undoL_bad _ _ hnn.out _ hstep, joinU_bad _ _ _ (by decide)]
          clear hstep
          go_wp2_with (first | (go_at_call 77; refine (Next_as (s.extract k s.size) wr (by unfold maxLen; omega) 38 n hq).mono ?_; rintro e w2 ⟨rfl, hb2⟩) | (go_at_call 116; refine (reference_as (s.extract k s.size) _ (by unfold maxLen; omega) c' n' hr).mono ?_; rintro e w3 ⟨rfl, hb3⟩) | (go_at_call 103; refine (Put_any _ _).mono ?_; rintro e w4 ⟨rfl, hb4⟩))
          go_ret3
          have hz2 := hb2.size; have hz3 := hb3.size
          exact ⟨by rw [hv.out]; rfl, ((hbel.trans (hb2.mono (by omega))).trans (hb3.mono (by omega))).trans (hb4.mono (by omega))⟩
        · rw [if_neg hch] at hstep
          have hch' : charB c' = true := by simpa using hch
          have HS := Lib.hid hstep
          have hpl := putF_len c'
          clear hstep hch
          go_wp2_with (first | (go_at_call 77; refine (Next_as (s.extract k s.size) wr (by unfold maxLen; omega) 38 n hq).mono ?_; rintro e w2 ⟨rfl, hb2⟩) | (go_at_call 116; refine (reference_as (s.extract k s.size) _ (by unfold maxLen; omega) c' n' hr).mono ?_; rintro e w3 ⟨rfl, hb3⟩) | (go_at_call 103; refine (Put_any _ _).mono ?_; rintro e w4 ⟨rfl, hb4⟩))
          have hz2 := hb2.size; have hz4 := hb4.size; have hz3 := hb3.size
          have hB4 := builder_below (builder_below (builder_below hB hb2) hb3) hb4
          go_wp2_with (go_at_call 53; refine (Try.Builder_WriteString _ _ _ _ _ hB4 ?hlen1 (by omega)).mono ?_)
          case hlen1 => rw [Lib.byteCells_length]; show acc.length + (putF c').toArray.size ≤ _; simp; omega
          rintro e w5 ⟨rfl, hB5, hb5⟩
          have hz5 := hb5.size
          go_wp2
          go_roundw
          case rel =>
            refine ⟨k + n', acc ++ putF c', by go_num, by omega, ?_, ?_, ?_, ?_, by omega⟩
            · show _ = _
              rw [hjo.out, undoL_step _ _ hnn.out _ _ HS.out, joinU_join, List.drop_drop]
            · rw [List.length_append]; omega
            · rw [Lib.byteCells_append]; exact .inr hB5
            · exact (((hbel.trans (hb2.mono (by omega))).trans (hb3.mono (by omega))).trans (hb4.mono (by omega))).trans hb5
          case measure => simp [intOf]; omega
      have hstep := stepL_put (v := true) hq.out hnp (by omega) (by simp; omega) hc38
      rw [hx.out] at hstep
      have hb60 : (c == 60) = false := by simp; omega
      have hb62 : (c == 62) = false := by simp; omega
      have hb13 : (c == 13) = false := by simp; omega
      have hb34 : (c == 34) = false := by simp; omega
      have hb9 : (c == 9) = false := by simp; omega
      have hb10 : (c == 10) = false := by simp; omega
      have hb38 : (c == 38) = false := by simp; omega
      clear hc60 hc62 hc13 hc34 hc9 hc10 hc38
      by_cases hch : charB c = false
      · rw [if_pos hch] at hstep
        have hv : Hid (V = ([], k, 21)) := by
          show _ = _
          rw [hjo.out, undoL_bad _ _ hnn.out _ hstep, joinU_bad _ _ _ (by decide)]
        clear hstep
        go_wp2_with (first | (go_at_call 77; refine (Next_as (s.extract k s.size) wr (by unfold maxLen; omega) c n hq).mono ?_; rintro e w2 ⟨rfl, hb2⟩) | (go_at_call 103; refine (Put_any _ _).mono ?_; rintro e w4 ⟨rfl, hb4⟩))
        go_ret3
        have hz2 := hb2.size
        exact ⟨by rw [hv.out]; rfl, (hbel.trans (hb2.mono (by omega))).trans (hb4.mono (by omega))⟩
      · rw [if_neg hch] at hstep
        have hch' : charB c = true := by simpa using hch
        have HS := Lib.hid hstep
        have hpl := putF_len c
        clear hstep hch
        go_wp2_with (first | (go_at_call 77; refine (Next_as (s.extract k s.size) wr (by unfold maxLen; omega) c n hq).mono ?_; rintro e w2 ⟨rfl, hb2⟩) | (go_at_call 103; refine (Put_any _ _).mono ?_; rintro e w4 ⟨rfl, hb4⟩))
        have hz2 := hb2.size; have hz4 := hb4.size; skip
        have hB4 := builder_below (builder_below hB hb2) hb4
        go_wp2_with (go_at_call 53; refine (Try.Builder_WriteString _ _ _ _ _ hB4 ?hlen2 (by omega)).mono ?_)
        case hlen2 => rw [Lib.byteCells_length]; show acc.length + (putF c).toArray.size ≤ _; simp; omega
        rintro e w5 ⟨rfl, hB5, hb5⟩
        have hz5 := hb5.size
        go_wp2
        go_roundw
        case rel =>
          refine ⟨k + n, acc ++ putF c, by go_num, by omega, ?_, ?_, ?_, ?_, by omega⟩
          · show _ = _
            rw [hjo.out, undoL_step _ _ hnn.out _ _ HS.out, joinU_join, List.drop_drop]
          · rw [List.length_append]; omega
          · rw [Lib.byteCells_append]; exact .inr hB5
          · exact ((hbel.trans (hb2.mono (by omega))).trans (hb4.mono (by omega))).trans hb5
        case measure => simp [intOf]; omega
    · have hk : k = s.size := by omega
      have hv : Hid (V = (acc, s.size, 0)) := by
        have : s.data.toList.drop k = [] := List.drop_eq_nil_of_le (by rw [HL.out]; omega)
        show _ = _
        rw [hjo.out, this, undoL_nil, hk]; simp [joinU]
      clear hk
      go_wp2_with (go_at_call 57; refine (Try.Builder_String _ _ _ _ hB (by omega)).mono ?_; rintro e w2 ⟨rfl, hb2⟩)
      go_ret3
      exact ⟨by rw [hv.out]; rfl, hbel.trans hb2⟩

set_option maxRecDepth 100000 in
set_option maxHeartbeats 4000000 in
theorem Undo_false (s : ByteArray) (w : World) (hs : s.size ≤ 1099511627776) (V : List UInt8 × Nat × Int) (hV : Hid (V = undoL false s.data.toList)) :
    Calls Try.prog 96 #[.string s, .bool false] w (Ret w (.tuple #[.string ⟨V.1.toArray⟩, .int .i64 (V.2.1 : Nat), .int .i64 V.2.2])) := by
  go_enter Try.func96, Try.ntmps96
  go_wp2_with fail
  go_loopw [8] (fun av wr => ∃ (k : Nat) (acc : List UInt8), av = .int .i64 k ∧ k ≤ s.size ∧ Hid (V = joinU acc k (undoL false (s.data.toList.drop k))) ∧ acc.length ≤ 4 * k ∧
      Lib.IsBuilder 80 5 w.heap.size w.heap.size (Lib.byteCells acc) wr ∧ Below w.heap.size w wr ∧ w.heap.size < wr.heap.size) (fun av _ => s.size - (intOf av).toNat)
  case atStart =>
    refine ⟨0, [], rfl, Nat.zero_le _, ?_, by simp, builder_new _ _ _, (Below.refl _ _).alloc (Nat.le_refl _) _, by simp⟩
    show _ = _
    rw [hV.out, List.drop_zero, joinU_nil _ (undoL_shape _ _)]
  case round =>
    obtain ⟨k, acc, rfl, hks, hjo, hal, hB, hbel, hlt⟩ := hrel
    have HL := Lib.hid (size_toList s)
    by_cases hend : k < s.size
    · have hx : Hid ((s.extract k s.size).data.toList = s.data.toList.drop k) := Lib.extract_to_end s k
      have hxs : (s.extract k s.size).size = s.size - k := by simp
      have hnn : Hid (s.data.toList.drop k ≠ []) := by
        intro h
        have := congrArg List.length h
        rw [List.length_drop, HL.out] at this
        simp at this; omega
      have hszl : (s.extract k s.size).size ≤ 1099511627776 := by omega
      have HXS := Lib.hid hxs
      clear hxs
      obtain ⟨c, n, hq⟩ : ∃ c n, Hid (nextL (s.extract k s.size).data.toList = (c, n)) := ⟨_, _, rfl⟩
      have hle := nextL_le (s.extract k s.size).data.toList
      rw [hq.out, hx.out, List.length_drop, HL.out] at hle
      obtain ⟨hn1, hn4⟩ := hle
      simp only at hn1 hn4
      by_cases hn : n = 0
      · have hv : Hid (V = ([], k, 21)) := by
          have := stepL_no (v := false) hq.out hn
          rw [hx.out] at this
          show _ = _
          rw [hjo.out, undoL_bad _ _ hnn.out _ this, joinU_bad _ _ _ (by decide)]
        have hn0 : ((n : Int) == 0) = true := by simp [hn]
        have hnz : n ≤ 0 := by omega
        clear hn
        go_wp2_with (go_at_call 77; refine (Next_as (s.extract k s.size) wr (by unfold maxLen; omega) c n hq).mono ?_; rintro e w2 ⟨rfl, hb2⟩)
        go_ret3
        exact ⟨by rw [hv.out]; rfl, hbel.trans (hb2.mono (by omega))⟩
      have hnp : 0 < n := by omega
      have hn0 : ((n : Int) == 0) = false := by simp [hn]
      clear hn
      by_cases hc60 : c = 60
      · subst hc60
        have hv : Hid (V = ([], k, 20)) := by
          have := stepL_lt (v := false) hq.out hnp (.inl rfl)
          rw [hx.out] at this
          show _ = _
          rw [hjo.out, undoL_bad _ _ hnn.out _ this, joinU_bad _ _ _ (by decide)]
        go_wp2_with (go_at_call 77; refine (Next_as (s.extract k s.size) wr (by unfold maxLen; omega) 60 n hq).mono ?_; rintro e w2 ⟨rfl, hb2⟩)
        go_ret3
        exact ⟨by rw [hv.out]; rfl, hbel.trans (hb2.mono (by omega))⟩
      by_cases hc62 : c = 62
      · subst hc62
        have hv : Hid (V = ([], k, 20)) := by
          have := stepL_lt (v := false) hq.out hnp (.inr rfl)
          rw [hx.out] at this
          show _ = _
          rw [hjo.out, undoL_bad _ _ hnn.out _ this, joinU_bad _ _ _ (by decide)]
        go_wp2_with (go_at_call 77; refine (Next_as (s.extract k s.size) wr (by unfold maxLen; omega) 62 n hq).mono ?_; rintro e w2 ⟨rfl, hb2⟩)
        go_ret3
        exact ⟨by rw [hv.out]; rfl, hbel.trans (hb2.mono (by omega))⟩
      by_cases hc13 : c = 13
      · subst hc13
        have hv : Hid (V = ([], k, 21)) := by
          have := stepL_13 (v := false) hq.out (.inl rfl)
          rw [hx.out] at this
          show _ = _
          rw [hjo.out, undoL_bad _ _ hnn.out _ this, joinU_bad _ _ _ (by decide)]
        go_wp2_with (go_at_call 77; refine (Next_as (s.extract k s.size) wr (by unfold maxLen; omega) 13 n hq).mono ?_; rintro e w2 ⟨rfl, hb2⟩)
        go_ret3
        exact ⟨by rw [hv.out]; rfl, hbel.trans (hb2.mono (by omega))⟩
      by_cases hc38 : c = 38
      · subst hc38
        obtain ⟨c', n', hr⟩ : ∃ c' n', Hid (refL (s.extract k s.size).data.toList = (c', n')) := ⟨_, _, rfl⟩
        have hrl := refL_le (s.extract k s.size).data.toList
        rw [hr.out, hx.out, List.length_drop, HL.out] at hrl
        simp only at hrl
        have hstep := stepL_ref (v := false) hq.out hnp hr.out
        rw [hx.out] at hstep
        by_cases hn' : n' = 0
        · rw [if_pos hn'] at hstep
          have hv : Hid (V = ([], k, 20)) := by
            show _ = _
            rw [hjo.out, undoL_bad _ _ hnn.out _ hstep, joinU_bad _ _ _ (by decide)]
          have hn0' : ((n' : Int) == 0) = true := by simp [hn']
          clear hn' hstep
          go_wp2_with (first | (go_at_call 77; refine (Next_as (s.extract k s.size) wr (by unfold maxLen; omega) 38 n hq).mono ?_; rintro e w2 ⟨rfl, hb2⟩) | (go_at_call 116; refine (reference_as (s.extract k s.size) _ (by unfold maxLen; omega) c' n' hr).mono ?_; rintro e w3 ⟨rfl, hb3⟩) | (go_at_call 103; refine (Put_any _ _).mono ?_; rintro e w4 ⟨rfl, hb4⟩))
          go_ret3
          have hz2 := hb2.size; have hz3 := hb3.size
          exact ⟨by rw [hv.out]; rfl, ((hbel.trans (hb2.mono (by omega))).trans (hb3.mono (by omega))).trans (hb4.mono (by omega))⟩
        rw [if_neg hn'] at hstep
        have hn0' : ((n' : Int) == 0) = false := by simp [hn']
        have hnp' : 0 < n' := by omega
        clear hn'
        by_cases hch : charB c' = false
        · rw [if_pos hch] at hstep
          have hv : Hid (V = ([], k, 21)) := by
            show _ = _
            rw [hjo.out, undoL_bad _ _ hnn.out _ hstep, joinU_bad _ _ _ (by decide)]
          clear hstep
          go_wp2_with (first | (go_at_call 77; refine (Next_as (s.extract k s.size) wr (by unfold maxLen; omega) 38 n hq).mono ?_; rintro e w2 ⟨rfl, hb2⟩) | (go_at_call 116; refine (reference_as (s.extract k s.size) _ (by unfold maxLen; omega) c' n' hr).mono ?_; rintro e w3 ⟨rfl, hb3⟩) | (go_at_call 103; refine (Put_any _ _).mono ?_; rintro e w4 ⟨rfl, hb4⟩))
          go_ret3
          have hz2 := hb2.size; have hz3 := hb3.size
          exact ⟨by rw [hv.out]; rfl, ((hbel.trans (hb2.mono (by omega))).trans (hb3.mono (by omega))).trans (hb4.mono (by omega))⟩
        · rw [if_neg hch] at hstep
          have hch' : charB c' = true := by simpa using hch
          have HS := Lib.hid hstep
          have hpl := putF_len c'
          clear hstep hch
          go_wp2_with (first | (go_at_call 77; refine (Next_as (s.extract k s.size) wr (by unfold maxLen; omega) 38 n hq).mono ?_; rintro e w2 ⟨rfl, hb2⟩) | (go_at_call 116; refine (reference_as (s.extract k s.size) _ (by unfold maxLen; omega) c' n' hr).mono ?_; rintro e w3 ⟨rfl, hb3⟩) | (go_at_call 103; refine (Put_any _ _).mono ?_; rintro e w4 ⟨rfl, hb4⟩))
          have hz2 := hb2.size; have hz4 := hb4.size; have hz3 := hb3.size
          have hB4 := builder_below (builder_below (builder_below hB hb2) hb3) hb4
          go_wp2_with (go_at_call 53; refine (Try.Builder_WriteString _ _ _ _ _ hB4 ?hlen1 (by omega)).mono ?_)
          case hlen1 => rw [Lib.byteCells_length]; show acc.length + (putF c').toArray.size ≤ _; simp; omega
          rintro e w5 ⟨rfl, hB5, hb5⟩
          have hz5 := hb5.size
          go_wp2
          go_roundw
          case rel =>
            refine ⟨k + n', acc ++ putF c', by go_num, by omega, ?_, ?_, ?_, ?_, by omega⟩
            · show _ = _
              rw [hjo.out, undoL_step _ _ hnn.out _ _ HS.out, joinU_join, List.drop_drop]
            · rw [List.length_append]; omega
            · rw [Lib.byteCells_append]; exact .inr hB5
            · exact (((hbel.trans (hb2.mono (by omega))).trans (hb3.mono (by omega))).trans (hb4.mono (by omega))).trans hb5
          case measure => simp [intOf]; omega
      have hstep := stepL_put (v := false) hq.out hnp (by omega) (by simp; omega) hc38
      rw [hx.out] at hstep
      have hb60 : (c == 60) = false := by simp; omega
      have hb62 : (c == 62) = false := by simp; omega
      have hb13 : (c == 13) = false := by simp; omega
      have hb38 : (c == 38) = false := by simp; omega
      clear hc60 hc62 hc13 hc38
      by_cases hch : charB c = false
      · rw [if_pos hch] at hstep
        have hv : Hid (V = ([], k, 21)) := by
          show _ = _
          rw [hjo.out, undoL_bad _ _ hnn.out _ hstep, joinU_bad _ _ _ (by decide)]
        clear hstep
        go_wp2_with (first | (go_at_call 77; refine (Next_as (s.extract k s.size) wr (by unfold maxLen; omega) c n hq).mono ?_; rintro e w2 ⟨rfl, hb2⟩) | (go_at_call 103; refine (Put_any _ _).mono ?_; rintro e w4 ⟨rfl, hb4⟩))
        go_ret3
        have hz2 := hb2.size
        exact ⟨by rw [hv.out]; rfl, (hbel.trans (hb2.mono (by omega))).trans (hb4.mono (by omega))⟩
      · rw [if_neg hch] at hstep
        have hch' : charB c = true := by simpa using hch
        have HS := Lib.hid hstep
        have hpl := putF_len c
        clear hstep hch
        go_wp2_with (first | (go_at_call 77; refine (Next_as (s.extract k s.size) wr (by unfold maxLen; omega) c n hq).mono ?_; rintro e w2 ⟨rfl, hb2⟩) | (go_at_call 103; refine (Put_any _ _).mono ?_; rintro e w4 ⟨rfl, hb4⟩))
        have hz2 := hb2.size; have hz4 := hb4.size; skip
        have hB4 := builder_below (builder_below hB hb2) hb4
        go_wp2_with (go_at_call 53; refine (Try.Builder_WriteString _ _ _ _ _ hB4 ?hlen2 (by omega)).mono ?_)
        case hlen2 => rw [Lib.byteCells_length]; show acc.length + (putF c).toArray.size ≤ _; simp; omega
        rintro e w5 ⟨rfl, hB5, hb5⟩
        have hz5 := hb5.size
        go_wp2
        go_roundw
        case rel =>
          refine ⟨k + n, acc ++ putF c, by go_num, by omega, ?_, ?_, ?_, ?_, by omega⟩
          · show _ = _
            rw [hjo.out, undoL_step _ _ hnn.out _ _ HS.out, joinU_join, List.drop_drop]
          · rw [List.length_append]; omega
          · rw [Lib.byteCells_append]; exact .inr hB5
          · exact ((hbel.trans (hb2.mono (by omega))).trans (hb4.mono (by omega))).trans hb5
        case measure => simp [intOf]; omega
    · have hk : k = s.size := by omega
      have hv : Hid (V = (acc, s.size, 0)) := by
        have : s.data.toList.drop k = [] := List.drop_eq_nil_of_le (by rw [HL.out]; omega)
        show _ = _
        rw [hjo.out, this, undoL_nil, hk]; simp [joinU]
      clear hk
      go_wp2_with (go_at_call 57; refine (Try.Builder_String _ _ _ _ hB (by omega)).mono ?_; rintro e w2 ⟨rfl, hb2⟩)
      go_ret3
      exact ⟨by rw [hv.out]; rfl, hbel.trans hb2⟩

theorem Undo_any (s : ByteArray) (v : Bool) (w : World) (hs : s.size ≤ 1099511627776) :
    Calls Try.prog 96 #[.string s, .bool v] w (Ret w (.tuple #[.string ⟨(undoL v s.data.toList).1.toArray⟩, .int .i64 ((undoL v s.data.toList).2.1 : Nat), .int .i64 (undoL v s.data.toList).2.2])) := by
  cases v
  · exact Undo_false s w hs _ rfl
  · exact Undo_true s w hs _ rfl
end Go.Proofs.Ythifddkmbjnncaa

/-
  The plain law of names: no program in sight.
-/
namespace Go.Proofs.Ythifddkmbjnncaa

def startB (c : Int) : Bool := decide ((65 ≤ c ∧ c ≤ 90) ∨ c = 95 ∨ (97 ≤ c ∧ c ≤ 122) ∨ (192 ≤ c ∧ c ≤ 214) ∨ (216 ≤ c ∧ c ≤ 246) ∨ (248 ≤ c ∧ c ≤ 767) ∨ (880 ≤ c ∧ c ≤ 893) ∨ (895 ≤ c ∧ c ≤ 8191) ∨ (8204 ≤ c ∧ c ≤ 8205) ∨ (8304 ≤ c ∧ c ≤ 8591) ∨ (11264 ≤ c ∧ c ≤ 12271) ∨ (12289 ≤ c ∧ c ≤ 55295) ∨ (63744 ≤ c ∧ c ≤ 64975) ∨ (65008 ≤ c ∧ c ≤ 65533) ∨ (65536 ≤ c ∧ c ≤ 983039))
def partB (c : Int) : Bool := startB c || decide ((45 ≤ c ∧ c ≤ 46) ∨ (48 ≤ c ∧ c ≤ 57) ∨ c = 183 ∨ (768 ≤ c ∧ c ≤ 879) ∨ (8255 ≤ c ∧ c ≤ 8256))
def nameL (l : List UInt8) : Bool := match charsL l with
  | some (c :: cs) => decide (l.length ≤ 60) && (startB c && (partB c && cs.all partB))
  | _ => false

def okF : Bool → List Int → Bool
  | _, [] => true
  | first, c :: cs => (partB c && (!first || startB c)) && okF false cs
/-- what glyph.each answers for a name's characters, k of them read -/
def eachI (k : Nat) (l : List UInt8) : Int := match charsL l with
  | some cs => if okF (k == 0) cs then ((k + cs.length : Nat) : Int) else -1
  | none => -1
theorem eachI_nil (k : Nat) : eachI k [] = k := by unfold eachI; rw [charsL_nil]; simp [okF]
theorem eachI_bad (k : Nat) (l : List UInt8) (h : l ≠ []) (hn : (nextL l).2 = 0) : eachI k l = -1 := by
  unfold eachI; rw [charsL_bad l h hn]
theorem eachI_no (k : Nat) (l : List UInt8) (h : l ≠ []) (hn : (nextL l).2 ≠ 0) (hr : (partB (nextL l).1 && (!(k == 0) || startB (nextL l).1)) = false) : eachI k l = -1 := by
  unfold eachI; rw [charsL_step l h hn]
  cases charsL (l.drop (nextL l).2) with
  | none => rfl
  | some cs => simp only [Option.map_some, okF, hr, Bool.false_and]; rfl
theorem eachI_step (k : Nat) (l : List UInt8) (h : l ≠ []) (hn : (nextL l).2 ≠ 0) (hr : (partB (nextL l).1 && (!(k == 0) || startB (nextL l).1)) = true) : eachI k l = eachI (k + 1) (l.drop (nextL l).2) := by
  unfold eachI; rw [charsL_step l h hn]
  cases charsL (l.drop (nextL l).2) with
  | none => rfl
  | some cs =>
    have : (k + 1 == 0) = false := by simp
    simp only [Option.map_some, okF, hr, Bool.true_and, this, List.length_cons]
    have : k + (cs.length + 1) = k + 1 + cs.length := by omega
    rw [this]
theorem okF_false (cs : List Int) : okF false cs = cs.all partB := by
  induction cs with
  | nil => rfl
  | cons c cs ih => simp [okF, ih]
theorem nameL_each (l : List UInt8) : nameL l = (decide (l.length ≤ 60) && decide (l ≠ [] ∧ 0 < eachI 0 l)) := by
  unfold nameL eachI
  by_cases hl : l = []
  · subst hl; rw [charsL_nil]; rfl
  · cases hc : charsL l with
    | none => simp
    | some cs =>
      cases cs with
      | nil =>
        exfalso
        by_cases hn : (nextL l).2 = 0
        · rw [charsL_bad l hl hn] at hc; cases hc
        · rw [charsL_step l hl hn] at hc
          cases hd : charsL (l.drop (nextL l).2) <;> rw [hd] at hc <;> simp at hc
      | cons c cs =>
        simp only [okF, okF_false]
        have e0 : ((0 : Nat) == 0) = true := rfl
        rw [e0]
        cases partB c <;> cases startB c <;> cases cs.all partB <;> simp [hl]
end Go.Proofs.Ythifddkmbjnncaa

/-
  The plain law of documents: no program in sight.
-/
namespace Go.Proofs.Ythifddkmbjnncaa

structure AttrD where
  name : List UInt8
  value : List UInt8
deriving DecidableEq

structure ItemD where
  level : Int
  kind : Int
  name : List UInt8
  text : List UInt8
  attrs : List AttrD
deriving DecidableEq

/-- how many characters; -1: the text is not made of such -/
def countL (l : List UInt8) : Int := match charsL l with
  | some cs => cs.length
  | none => -1
/-- why a text may not be -/
def charsE (l : List UInt8) : Int := if countL l < 0 then 64 else if 1500 < l.length then 67 else 0

def leB (a b : List UInt8) : Bool := Op.bytesLess a b || a == b
def attrNames (last : List UInt8) : List AttrD → Bool
  | [] => true
  | a :: r => nameL a.name && !(leB a.name last) && attrNames a.name r
def namesE (x : ItemD) : Int := if nameL x.name && attrNames [] x.attrs then (if 20 < x.attrs.length then 67 else 0) else 63
def valuesE : List AttrD → Int
  | [] => 0
  | a :: r => if charsE a.value = 0 then valuesE r else charsE a.value
def partsE (x : ItemD) : Int :=
  if x.kind = 2 ∧ x.name = [] ∧ x.attrs = [] then charsE x.text
  else if x.kind ≠ 1 ∨ x.text ≠ [] then 68
  else if namesE x = 0 then valuesE x.attrs else namesE x
def placeE (prev : Option ItemD) (k : Nat) (x : ItemD) : Int := match prev with
  | none => if x.level ≠ 0 ∨ x.kind ≠ 1 then 69 else 0
  | some p => if x.level < 1 ∨ p.level + 1 < x.level ∨ (p.level < x.level ∧ p.kind = 2) then 69 else if 40 ≤ x.level then 42 else if 1000 ≤ k then 43 else 0
def oneE (prev : Option ItemD) (k : Nat) (x : ItemD) : Int := if placeE prev k x = 0 then partsE x else placeE prev k x
def checkF (prev : Option ItemD) (k : Nat) : List ItemD → Int × Int
  | [] => (0, 0)
  | x :: r => if oneE prev k x = 0 then checkF (some x) (k + 1) r else (k, oneE prev k x)
def checkL (l : List ItemD) : Int × Int := if l = [] then (0, 40) else checkF none 0 l
end Go.Proofs.Ythifddkmbjnncaa

/-
  Documents in memory: rows of items, rows of attributes.
-/
namespace Go.Proofs.Ythifddkmbjnncaa
open Go.RowKit

def strV (l : List UInt8) : Value := .string ⟨l.toArray⟩

/-- A row of attributes at an address: two cells each. -/
def AttrsAt (w : World) (B : Nat) (A : Option Addr) (l : List AttrD) : Prop :=
  0 < l.length → ∃ ad, A = some ad ∧ ad.block < B ∧ ∀ k a, l[k]? = some a → w.cell? (ad.add (k * 2)) = some (strV a.name) ∧ w.cell? ⟨(ad.add (k * 2)).block, (ad.add (k * 2)).off + 1, none⟩ = some (strV a.value)

/-- An item's five cells. -/
def itemVal (x : ItemD) (A : Option Addr) (c : Nat) : Array Value := #[.int .i64 x.level, .int .i64 x.kind, strV x.name, strV x.text, .slice A x.attrs.length c]

/-- A row of items at an address: five cells each. -/
def ItemsAt (w : World) (B : Nat) (A : Option Addr) (l : List ItemD) : Prop :=
  0 < l.length → ∃ ad, A = some ad ∧ ad.block < B ∧ ∀ k x, l[k]? = some x → ∃ A' c, AttrsAt w B A' x.attrs ∧ x.attrs.length ≤ c ∧
    w.cell? (ad.add (k * 5)) = some (.int .i64 x.level) ∧ w.cell? ⟨(ad.add (k * 5)).block, (ad.add (k * 5)).off + 1, none⟩ = some (.int .i64 x.kind) ∧ w.cell? ⟨(ad.add (k * 5)).block, (ad.add (k * 5)).off + 2, none⟩ = some (strV x.name) ∧
    w.cell? ⟨(ad.add (k * 5)).block, (ad.add (k * 5)).off + 3, none⟩ = some (strV x.text) ∧ w.cell? ⟨(ad.add (k * 5)).block, (ad.add (k * 5)).off + 4, none⟩ = some (.slice A' x.attrs.length c)

theorem block_of_add (a : Addr) (n : Nat) : (a.add n).block = a.block := by unfold Addr.add; split <;> rfl
theorem add_of_add (a : Addr) (i j : Nat) : (a.add i).add j = a.add (i + j) := by
  unfold Addr.add
  by_cases hi : i = 0 <;> by_cases hj : j = 0 <;> simp [hi, hj, Nat.add_assoc]

section
variable {w w' : World} {B B' : Nat} {A : Option Addr}
theorem AttrsAt.keep {l : List AttrD} (h : AttrsAt w B A l) (hk : ∀ p : Addr, p.block < B → w'.cell? p = w.cell? p) : AttrsAt w' B A l := fun hn => by
  obtain ⟨ad, e, hb, hc⟩ := h hn
  exact ⟨ad, e, hb, fun k a ha => ⟨(hk _ (by rw [block_of_add]; exact hb)).trans (hc k a ha).1, (hk _ (by show (ad.add _).block < B; rw [block_of_add]; exact hb)).trans (hc k a ha).2⟩⟩
theorem AttrsAt.more {l : List AttrD} (h : AttrsAt w B A l) (hB : B ≤ B') : AttrsAt w B' A l := fun hn => by
  obtain ⟨ad, e, hb, hc⟩ := h hn
  exact ⟨ad, e, by omega, hc⟩
theorem AttrsAt.below {l : List AttrD} (h : AttrsAt w B A l) (hb : Below B w w') : AttrsAt w' B A l := h.keep fun _ hp => hb.cell hp
theorem ItemsAt.keep {l : List ItemD} (h : ItemsAt w B A l) (hk : ∀ p : Addr, p.block < B → w'.cell? p = w.cell? p) : ItemsAt w' B A l := fun hn => by
  obtain ⟨ad, e, hb, hc⟩ := h hn
  refine ⟨ad, e, hb, fun k x hx => ?_⟩
  obtain ⟨A', c, ha, hac, h0, h1, h2, h3, h4⟩ := hc k x hx
  have hk' : ∀ n, w'.cell? ⟨(ad.add (k * 5)).block, (ad.add (k * 5)).off + n, none⟩ = w.cell? ⟨(ad.add (k * 5)).block, (ad.add (k * 5)).off + n, none⟩ := fun n => hk _ (by show (ad.add _).block < B; rw [block_of_add]; exact hb)
  exact ⟨A', c, ha.keep hk, hac, (hk _ (by rw [block_of_add]; exact hb)).trans h0, (hk' _).trans h1, (hk' _).trans h2, (hk' _).trans h3, (hk' _).trans h4⟩
theorem ItemsAt.more {l : List ItemD} (h : ItemsAt w B A l) (hB : B ≤ B') : ItemsAt w B' A l := fun hn => by
  obtain ⟨ad, e, hb, hc⟩ := h hn
  refine ⟨ad, e, by omega, fun k x hx => ?_⟩
  obtain ⟨A', c, ha, hr⟩ := hc k x hx
  exact ⟨A', c, ha.more hB, hr⟩
theorem ItemsAt.below {l : List ItemD} (h : ItemsAt w B A l) (hb : Below B w w') : ItemsAt w' B A l := h.keep fun _ hp => hb.cell hp
end
end Go.Proofs.Ythifddkmbjnncaa

/-
  Plain words on documents and their check: no program in sight.
-/
namespace Go.Proofs.Ythifddkmbjnncaa

/-- The item ahead. -/
def prevOf (l : List ItemD) (k : Nat) : Option ItemD := if k = 0 then none else l[k - 1]?

/-- no part of an item is of a size that is out of the model's reach -/
def SmallItem (x : ItemD) : Prop := x.name.length ≤ 1000000000 ∧ x.text.length ≤ 1000000000 ∧ x.attrs.length ≤ 1000000000 ∧ (∀ (k : Nat) (a : AttrD), x.attrs[k]? = some a → a.name.length ≤ 1000000000 ∧ a.value.length ≤ 1000000000) ∧ (-9223372036854775808 ≤ x.level ∧ x.level ≤ 9223372036854775807)

theorem drop_cons {α : Type} {l : List α} {k : Nat} {a : α} (h : l[k]? = some a) : l.drop k = a :: l.drop (k + 1) := by
  have hl : k < l.length := (List.getElem?_eq_some_iff.1 h).1
  rw [List.drop_eq_getElem_cons hl]
  rw [List.getElem?_eq_getElem hl] at h
  injection h with h; rw [h]

theorem placeE_zero {prev : Option ItemD} {k : Nat} {x : ItemD} (h : placeE prev k x = 0) : 0 ≤ x.level ∧ x.level < 40 := by
  unfold placeE at h
  cases prev with
  | none =>
    simp only at h
    split at h
    · omega
    · omega
  | some p =>
    simp only at h
    split at h
    · omega
    split at h
    · omega
    · omega
theorem oneE_zero {prev : Option ItemD} {k : Nat} {x : ItemD} (h : oneE prev k x = 0) : placeE prev k x = 0 ∧ partsE x = 0 := by
  unfold oneE at h
  by_cases hp : placeE prev k x = 0
  · rw [if_pos hp] at h; exact ⟨hp, h⟩
  · rw [if_neg hp] at h; exact absurd h hp
theorem prevOf_succ {l : List ItemD} {k : Nat} {x : ItemD} (hx : l[k]? = some x) : prevOf l (k + 1) = some x := by
  unfold prevOf; rw [if_neg (by omega)]; exact hx
theorem checkF_drop {l : List ItemD} {k : Nat} {x : ItemD} (hx : l[k]? = some x) : checkF (prevOf l k) k (l.drop k) = if oneE (prevOf l k) k x = 0 then checkF (prevOf l (k + 1)) (k + 1) (l.drop (k + 1)) else ((k : Int), oneE (prevOf l k) k x) := by
  rw [drop_cons hx, prevOf_succ hx]; rfl

/-- All items are small enough. -/
def SmallItems (l : List ItemD) : Prop := l.length ≤ 1000000000 ∧ ∀ (k : Nat) (x : ItemD), l[k]? = some x → SmallItem x

end Go.Proofs.Ythifddkmbjnncaa

/-
  The walks of glyph.starts, (span).has, Start and Part.
-/
namespace Go.Proofs.Ythifddkmbjnncaa
open Go.RowKit

set_option maxRecDepth 100000 in
set_option maxHeartbeats 1000000 in
theorem has_any (a b c : Int) (w : World) (r : Bool) (hr : Hid ((decide (a ≤ c) && decide (c ≤ b)) = r)) :
    Calls Try.prog 78 #[.agg #[.int .i32 a, .int .i32 b], .int .i32 c] w (Ret w (.bool r)) := by
  rw [← hr.out]
  go_enter Try.func78, Try.ntmps78
  go_wp2
  all_goals go_ret
  all_goals (refine ⟨ret_bool ?_, (Below.refl _ _).alloc (Nat.le_refl _) _⟩)
  all_goals (rw [Bool.eq_iff_iff]; simp; try omega)

def startsTab : Array Value := #[.int .i32 65, .int .i32 90, .int .i32 95, .int .i32 95, .int .i32 97, .int .i32 122, .int .i32 192, .int .i32 214, .int .i32 216, .int .i32 246, .int .i32 248, .int .i32 767, .int .i32 880, .int .i32 893, .int .i32 895, .int .i32 8191, .int .i32 8204, .int .i32 8205, .int .i32 8304, .int .i32 8591, .int .i32 11264, .int .i32 12271, .int .i32 12289, .int .i32 55295, .int .i32 63744, .int .i32 64975, .int .i32 65008, .int .i32 65533, .int .i32 65536, .int .i32 983039]
def partsTab : Array Value := #[.int .i32 45, .int .i32 46, .int .i32 48, .int .i32 57, .int .i32 183, .int .i32 183, .int .i32 768, .int .i32 879, .int .i32 8255, .int .i32 8256]

theorem wpList_store_starts {ops : Array Oper} {rest : List Oper} {op : Oper} {a : Act} {w : World} {Q : Exit → Act → World → Prop} (z : Array Value) (hz : z.size = 30) (hgd : op.guard = none) (ho : op.op = .store 109 (.tmp 0) (.tmp 16))
    (hx : a.eval (.tmp 0) = .pointer (some ⟨w.heap.size, 0, none⟩)) (hy : a.eval (.tmp 16) = .agg startsTab)
    (h : wpList Try.prog ops Q rest (a.put op.dst undef) (w.alloc (.cells startsTab 109))) : wpList Try.prog ops Q (op :: rest) a (w.alloc (.cells z 109)) :=
  wpList_plain hgd fun _ hK => by
    unfold Oper.wp execOp
    simp only [ho, hx, hy]
    have := run_storeAt_new (P := Try.prog) w 109 z startsTab (by kernel_rfl) hz (by kernel_rfl)
    simp only [Sem.run_bind, this, Result.andThen_ok]
    exact hK _ _ h

set_option maxRecDepth 100000 in
set_option maxHeartbeats 1000000 in
theorem starts_any (w : World) : Calls Try.prog 79 #[] w (Ret w (.agg startsTab)) := by
  go_enter Try.func79, Try.ntmps79
  go_wp2_with (refine wpList_store_starts _ rfl rfl rfl rfl rfl ?_)
  exact bodyPost_ret (v := .agg startsTab) (results_cell_row Try.results79 _ _ w.heap.size 109 startsTab (0, 0) _ rfl (heap_alloc_new w _) Try.underlying109 rfl (by kernel_rfl)) rfl ⟨rfl, (Below.refl _ _).alloc (Nat.le_refl _) _⟩

theorem st_0 (w : World) : (Instr.index 109 (.agg startsTab) (.int .i64 0)).run Try.prog w = .ok (.agg #[.int .i32 65, .int .i32 90]) w := by kernel_rfl
theorem st_1 (w : World) : (Instr.index 109 (.agg startsTab) (.int .i64 1)).run Try.prog w = .ok (.agg #[.int .i32 95, .int .i32 95]) w := by kernel_rfl
theorem st_2 (w : World) : (Instr.index 109 (.agg startsTab) (.int .i64 2)).run Try.prog w = .ok (.agg #[.int .i32 97, .int .i32 122]) w := by kernel_rfl
theorem st_3 (w : World) : (Instr.index 109 (.agg startsTab) (.int .i64 3)).run Try.prog w = .ok (.agg #[.int .i32 192, .int .i32 214]) w := by kernel_rfl
theorem st_4 (w : World) : (Instr.index 109 (.agg startsTab) (.int .i64 4)).run Try.prog w = .ok (.agg #[.int .i32 216, .int .i32 246]) w := by kernel_rfl
theorem st_5 (w : World) : (Instr.index 109 (.agg startsTab) (.int .i64 5)).run Try.prog w = .ok (.agg #[.int .i32 248, .int .i32 767]) w := by kernel_rfl
theorem st_6 (w : World) : (Instr.index 109 (.agg startsTab) (.int .i64 6)).run Try.prog w = .ok (.agg #[.int .i32 880, .int .i32 893]) w := by kernel_rfl
theorem st_7 (w : World) : (Instr.index 109 (.agg startsTab) (.int .i64 7)).run Try.prog w = .ok (.agg #[.int .i32 895, .int .i32 8191]) w := by kernel_rfl
theorem st_8 (w : World) : (Instr.index 109 (.agg startsTab) (.int .i64 8)).run Try.prog w = .ok (.agg #[.int .i32 8204, .int .i32 8205]) w := by kernel_rfl
theorem st_9 (w : World) : (Instr.index 109 (.agg startsTab) (.int .i64 9)).run Try.prog w = .ok (.agg #[.int .i32 8304, .int .i32 8591]) w := by kernel_rfl
theorem st_10 (w : World) : (Instr.index 109 (.agg startsTab) (.int .i64 10)).run Try.prog w = .ok (.agg #[.int .i32 11264, .int .i32 12271]) w := by kernel_rfl
theorem st_11 (w : World) : (Instr.index 109 (.agg startsTab) (.int .i64 11)).run Try.prog w = .ok (.agg #[.int .i32 12289, .int .i32 55295]) w := by kernel_rfl
theorem st_12 (w : World) : (Instr.index 109 (.agg startsTab) (.int .i64 12)).run Try.prog w = .ok (.agg #[.int .i32 63744, .int .i32 64975]) w := by kernel_rfl
theorem st_13 (w : World) : (Instr.index 109 (.agg startsTab) (.int .i64 13)).run Try.prog w = .ok (.agg #[.int .i32 65008, .int .i32 65533]) w := by kernel_rfl
theorem st_14 (w : World) : (Instr.index 109 (.agg startsTab) (.int .i64 14)).run Try.prog w = .ok (.agg #[.int .i32 65536, .int .i32 983039]) w := by kernel_rfl
theorem pt_0 (w : World) : (Instr.index 108 (.agg partsTab) (.int .i64 0)).run Try.prog w = .ok (.agg #[.int .i32 45, .int .i32 46]) w := by kernel_rfl
theorem pt_1 (w : World) : (Instr.index 108 (.agg partsTab) (.int .i64 1)).run Try.prog w = .ok (.agg #[.int .i32 48, .int .i32 57]) w := by kernel_rfl
theorem pt_2 (w : World) : (Instr.index 108 (.agg partsTab) (.int .i64 2)).run Try.prog w = .ok (.agg #[.int .i32 183, .int .i32 183]) w := by kernel_rfl
theorem pt_3 (w : World) : (Instr.index 108 (.agg partsTab) (.int .i64 3)).run Try.prog w = .ok (.agg #[.int .i32 768, .int .i32 879]) w := by kernel_rfl
theorem pt_4 (w : World) : (Instr.index 108 (.agg partsTab) (.int .i64 4)).run Try.prog w = .ok (.agg #[.int .i32 8255, .int .i32 8256]) w := by kernel_rfl
end Go.Proofs.Ythifddkmbjnncaa

/-
  The walk of glyph.Start.
-/
namespace Go.Proofs.Ythifddkmbjnncaa
open Go.RowKit


set_option maxRecDepth 100000 in
set_option maxHeartbeats 4000000 in
theorem Start_any (c : Int) (w : World) :
    Calls Try.prog 47 #[.int .i32 c] w (Ret w (.bool (startB c))) := by
  have q0 := st_0
  have q1 := st_1
  have q2 := st_2
  have q3 := st_3
  have q4 := st_4
  have q5 := st_5
  have q6 := st_6
  have q7 := st_7
  have q8 := st_8
  have q9 := st_9
  have q10 := st_10
  have q11 := st_11
  have q12 := st_12
  have q13 := st_13
  have q14 := st_14
  go_enter Try.func47, Try.ntmps47
  go_wp2_with fail
  refine (starts_any _).mono ?_; rintro e w0 ⟨rfl, hb0⟩
  have hz0 := hb0.size
  go_wp2_with fail
  refine wp_loop_rounds 16 ?_
  rw [rounds_succ]
  by_cases h0 : 65 ≤ c ∧ c ≤ 90
  · have H0 : Hid ((decide ((65 : Int) ≤ c) && decide (c ≤ 90)) = true) := by show _ = _; simp [h0]
    have hv : Hid (startB c = true) := by show _ = _; unfold startB; simp; omega
    clear h0
    go_wp2_with fail
    refine (has_any 65 90 _ _ true H0).mono ?_; rintro e w1 ⟨rfl, hb1⟩
    have hz1 := hb1.size
    simp only [World.size_alloc] at hz1
    go_wp2_with fail
    go_ret
    exact ⟨by rw [hv.out]; rfl, (((hb0).alloc (by omega) _).trans (hb1.mono (by first | omega | (simp; done) | (simp; omega))))⟩
  have H0 : Hid ((decide ((65 : Int) ≤ c) && decide (c ≤ 90)) = false) := by show _ = _; simp; omega
  go_wp2_with fail
  refine (has_any 65 90 _ _ false H0).mono ?_; rintro e w1 ⟨rfl, hb1⟩
  have hz1 := hb1.size
  simp only [World.size_alloc] at hz1
  go_wp2_with fail
  rw [rounds_succ]
  by_cases h1 : 95 ≤ c ∧ c ≤ 95
  · have H1 : Hid ((decide ((95 : Int) ≤ c) && decide (c ≤ 95)) = true) := by show _ = _; simp [h1]
    have hv : Hid (startB c = true) := by show _ = _; unfold startB; simp; omega
    clear h1
    go_wp2_with fail
    refine (has_any 95 95 _ _ true H1).mono ?_; rintro e w2 ⟨rfl, hb2⟩
    have hz2 := hb2.size
    simp only [World.size_alloc] at hz2
    go_wp2_with fail
    go_ret
    exact ⟨by rw [hv.out]; rfl, ((((((hb0).alloc (by omega) _).trans (hb1.mono (by first | omega | (simp; done) | (simp; omega))))).alloc (by omega) _).trans (hb2.mono (by first | omega | (simp; done) | (simp; omega))))⟩
  have H1 : Hid ((decide ((95 : Int) ≤ c) && decide (c ≤ 95)) = false) := by show _ = _; simp; omega
  go_wp2_with fail
  refine (has_any 95 95 _ _ false H1).mono ?_; rintro e w2 ⟨rfl, hb2⟩
  have hz2 := hb2.size
  simp only [World.size_alloc] at hz2
  go_wp2_with fail
  rw [rounds_succ]
  by_cases h2 : 97 ≤ c ∧ c ≤ 122
  · have H2 : Hid ((decide ((97 : Int) ≤ c) && decide (c ≤ 122)) = true) := by show _ = _; simp [h2]
    have hv : Hid (startB c = true) := by show _ = _; unfold startB; simp; omega
    clear h2
    go_wp2_with fail
    refine (has_any 97 122 _ _ true H2).mono ?_; rintro e w3 ⟨rfl, hb3⟩
    have hz3 := hb3.size
    simp only [World.size_alloc] at hz3
    go_wp2_with fail
    go_ret
    exact ⟨by rw [hv.out]; rfl, (((((((((hb0).alloc (by omega) _).trans (hb1.mono (by first | omega | (simp; done) | (simp; omega))))).alloc (by omega) _).trans (hb2.mono (by first | omega | (simp; done) | (simp; omega))))).alloc (by omega) _).trans (hb3.mono (by first | omega | (simp; done) | (simp; omega))))⟩
  have H2 : Hid ((decide ((97 : Int) ≤ c) && decide (c ≤ 122)) = false) := by show _ = _; simp; omega
  go_wp2_with fail
  refine (has_any 97 122 _ _ false H2).mono ?_; rintro e w3 ⟨rfl, hb3⟩
  have hz3 := hb3.size
  simp only [World.size_alloc] at hz3
  go_wp2_with fail
  rw [rounds_succ]
  by_cases h3 : 192 ≤ c ∧ c ≤ 214
  · have H3 : Hid ((decide ((192 : Int) ≤ c) && decide (c ≤ 214)) = true) := by show _ = _; simp [h3]
    have hv : Hid (startB c = true) := by show _ = _; unfold startB; simp; omega
    clear h3
    go_wp2_with fail
    refine (has_any 192 214 _ _ true H3).mono ?_; rintro e w4 ⟨rfl, hb4⟩
    have hz4 := hb4.size
    simp only [World.size_alloc] at hz4
    go_wp2_with fail
    go_ret
    exact ⟨by rw [hv.out]; rfl, ((((((((((((hb0).alloc (by omega) _).trans (hb1.mono (by first | omega | (simp; done) | (simp; omega))))).alloc (by omega) _).trans (hb2.mono (by first | omega | (simp; done) | (simp; omega))))).alloc (by omega) _).trans (hb3.mono (by first | omega | (simp; done) | (simp; omega))))).alloc (by omega) _).trans (hb4.mono (by first | omega | (simp; done) | (simp; omega))))⟩
  have H3 : Hid ((decide ((192 : Int) ≤ c) && decide (c ≤ 214)) = false) := by show _ = _; simp; omega
  go_wp2_with fail
  refine (has_any 192 214 _ _ false H3).mono ?_; rintro e w4 ⟨rfl, hb4⟩
  have hz4 := hb4.size
  simp only [World.size_alloc] at hz4
  go_wp2_with fail
  rw [rounds_succ]
  by_cases h4 : 216 ≤ c ∧ c ≤ 246
  · have H4 : Hid ((decide ((216 : Int) ≤ c) && decide (c ≤ 246)) = true) := by show _ = _; simp [h4]
    have hv : Hid (startB c = true) := by show _ = _; unfold startB; simp; omega
    clear h4
    go_wp2_with fail
    refine (has_any 216 246 _ _ true H4).mono ?_; rintro e w5 ⟨rfl, hb5⟩
    have hz5 := hb5.size
    simp only [World.size_alloc] at hz5
    go_wp2_with fail
    go_ret
    exact ⟨by rw [hv.out]; rfl, (((((((((((((((hb0).alloc (by omega) _).trans (hb1.mono (by first | omega | (simp; done) | (simp; omega))))).alloc (by omega) _).trans (hb2.mono (by first | omega | (simp; done) | (simp; omega))))).alloc (by omega) _).trans (hb3.mono (by first | omega | (simp; done) | (simp; omega))))).alloc (by omega) _).trans (hb4.mono (by first | omega | (simp; done) | (simp; omega))))).alloc (by omega) _).trans (hb5.mono (by first | omega | (simp; done) | (simp; omega))))⟩
  have H4 : Hid ((decide ((216 : Int) ≤ c) && decide (c ≤ 246)) = false) := by show _ = _; simp; omega
  go_wp2_with fail
  refine (has_any 216 246 _ _ false H4).mono ?_; rintro e w5 ⟨rfl, hb5⟩
  have hz5 := hb5.size
  simp only [World.size_alloc] at hz5
  go_wp2_with fail
  rw [rounds_succ]
  by_cases h5 : 248 ≤ c ∧ c ≤ 767
  · have H5 : Hid ((decide ((248 : Int) ≤ c) && decide (c ≤ 767)) = true) := by show _ = _; simp [h5]
    have hv : Hid (startB c = true) := by show _ = _; unfold startB; simp; omega
    clear h5
    go_wp2_with fail
    refine (has_any 248 767 _ _ true H5).mono ?_; rintro e w6 ⟨rfl, hb6⟩
    have hz6 := hb6.size
    simp only [World.size_alloc] at hz6
    go_wp2_with fail
    go_ret
    exact ⟨by rw [hv.out]; rfl, ((((((((((((((((((hb0).alloc (by omega) _).trans (hb1.mono (by first | omega | (simp; done) | (simp; omega))))).alloc (by omega) _).trans (hb2.mono (by first | omega | (simp; done) | (simp; omega))))).alloc (by omega) _).trans (hb3.mono (by first | omega | (simp; done) | (simp; omega))))).alloc (by omega) _).trans (hb4.mono (by first | omega | (simp; done) | (simp; omega))))).alloc (by omega) _).trans (hb5.mono (by first | omega | (simp; done) | (simp; omega))))).alloc (by omega) _).trans (hb6.mono (by first | omega | (simp; done) | (simp; omega))))⟩
  have H5 : Hid ((decide ((248 : Int) ≤ c) && decide (c ≤ 767)) = false) := by show _ = _; simp; omega
  go_wp2_with fail
  refine (has_any 248 767 _ _ false H5).mono ?_; rintro e w6 ⟨rfl, hb6⟩
  have hz6 := hb6.size
  simp only [World.size_alloc] at hz6
  go_wp2_with fail
  rw [rounds_succ]
  by_cases h6 : 880 ≤ c ∧ c ≤ 893
  · have H6 : Hid ((decide ((880 : Int) ≤ c) && decide (c ≤ 893)) = true) := by show _ = _; simp [h6]
    have hv : Hid (startB c = true) := by show _ = _; unfold startB; simp; omega
    clear h6
    go_wp2_with fail
    refine (has_any 880 893 _ _ true H6).mono ?_; rintro e w7 ⟨rfl, hb7⟩
    have hz7 := hb7.size
    simp only [World.size_alloc] at hz7
    go_wp2_with fail
    go_ret
    exact ⟨by rw [hv.out]; rfl, (((((((((((((((((((((hb0).alloc (by omega) _).trans (hb1.mono (by first | omega | (simp; done) | (simp; omega))))).alloc (by omega) _).trans (hb2.mono (by first | omega | (simp; done) | (simp; omega))))).alloc (by omega) _).trans (hb3.mono (by first | omega | (simp; done) | (simp; omega))))).alloc (by omega) _).trans (hb4.mono (by first | omega | (simp; done) | (simp; omega))))).alloc (by omega) _).trans (hb5.mono (by first | omega | (simp; done) | (simp; omega))))).alloc (by omega) _).trans (hb6.mono (by first | omega | (simp; done) | (simp; omega))))).alloc (by omega) _).trans (hb7.mono (by first | omega | (simp; done) | (simp; omega))))⟩
  have H6 : Hid ((decide ((880 : Int) ≤ c) && decide (c ≤ 893)) = false) := by show _ = _; simp; omega
  go_wp2_with fail
  refine (has_any 880 893 _ _ false H6).mono ?_; rintro e w7 ⟨rfl, hb7⟩
  have hz7 := hb7.size
  simp only [World.size_alloc] at hz7
  go_wp2_with fail
  rw [rounds_succ]
  by_cases h7 : 895 ≤ c ∧ c ≤ 8191
  · have H7 : Hid ((decide ((895 : Int) ≤ c) && decide (c ≤ 8191)) = true) := by show _ = _; simp [h7]
    have hv : Hid (startB c = true) := by show _ = _; unfold startB; simp; omega
    clear h7
    go_wp2_with fail
    refine (has_any 895 8191 _ _ true H7).mono ?_; rintro e w8 ⟨rfl, hb8⟩
    have hz8 := hb8.size
    simp only [World.size_alloc] at hz8
    go_wp2_with fail
    go_ret
    exact ⟨by rw [hv.out]; rfl, ((((((((((((((((((((((((hb0).alloc (by omega) _).trans (hb1.mono (by first | omega | (simp; done) | (simp; omega))))).alloc (by omega) _).trans (hb2.mono (by first | omega | (simp; done) | (simp; omega))))).alloc (by omega) _).trans (hb3.mono (by first | omega | (simp; done) | (simp; omega))))).alloc (by omega) _).trans (hb4.mono (by first | omega | (simp; done) | (simp; omega))))).alloc (by omega) _).trans (hb5.mono (by first | omega | (simp; done) | (simp; omega))))).alloc (by omega) _).trans (hb6.mono (by first | omega | (simp; done) | (simp; omega))))).alloc (by omega) _).trans (hb7.mono (by first | omega | (simp; done) | (simp; omega))))).alloc (by omega) _).trans (hb8.mono (by first | omega | (simp; done) | (simp; omega))))⟩
  have H7 : Hid ((decide ((895 : Int) ≤ c) && decide (c ≤ 8191)) = false) := by show _ = _; simp; omega
  go_wp2_with fail
  refine (has_any 895 8191 _ _ false H7).mono ?_; rintro e w8 ⟨rfl, hb8⟩
  have hz8 := hb8.size
  simp only [World.size_alloc] at hz8
  go_wp2_with fail
  rw [rounds_succ]
  by_cases h8 : 8204 ≤ c ∧ c ≤ 8205
  · have H8 : Hid ((decide ((8204 : Int) ≤ c) && decide (c ≤ 8205)) = true) := by show _ = _; simp [h8]
    have hv : Hid (startB c = true) := by show _ = _; unfold startB; simp; omega
    clear h8
    go_wp2_with fail
    refine (has_any 8204 8205 _ _ true H8).mono ?_; rintro e w9 ⟨rfl, hb9⟩
    have hz9 := hb9.size
    simp only [World.size_alloc] at hz9
    go_wp2_with fail
    go_ret
    exact ⟨by rw [hv.out]; rfl, (((((((((((((((((((((((((((hb0).alloc (by omega) _).trans (hb1.mono (by first | omega | (simp; done) | (simp; omega))))).alloc (by omega) _).trans (hb2.mono (by first | omega | (simp; done) | (simp; omega))))).alloc (by omega) _).trans (hb3.mono (by first | omega | (simp; done) | (simp; omega))))).alloc (by omega) _).trans (hb4.mono (by first | omega | (simp; done) | (simp; omega))))).alloc (by omega) _).trans (hb5.mono (by first | omega | (simp; done) | (simp; omega))))).alloc (by omega) _).trans (hb6.mono (by first | omega | (simp; done) | (simp; omega))))).alloc (by omega) _).trans (hb7.mono (by first | omega | (simp; done) | (simp; omega))))).alloc (by omega) _).trans (hb8.mono (by first | omega | (simp; done) | (simp; omega))))).alloc (by omega) _).trans (hb9.mono (by first | omega | (simp; done) | (simp; omega))))⟩
  have H8 : Hid ((decide ((8204 : Int) ≤ c) && decide (c ≤ 8205)) = false) := by show _ = _; simp; omega
  go_wp2_with fail
  refine (has_any 8204 8205 _ _ false H8).mono ?_; rintro e w9 ⟨rfl, hb9⟩
  have hz9 := hb9.size
  simp only [World.size_alloc] at hz9
  go_wp2_with fail
  rw [rounds_succ]
  by_cases h9 : 8304 ≤ c ∧ c ≤ 8591
  · have H9 : Hid ((decide ((8304 : Int) ≤ c) && decide (c ≤ 8591)) = true) := by show _ = _; simp [h9]
    have hv : Hid (startB c = true) := by show _ = _; unfold startB; simp; omega
    clear h9
    go_wp2_with fail
    refine (has_any 8304 8591 _ _ true H9).mono ?_; rintro e w10 ⟨rfl, hb10⟩
    have hz10 := hb10.size
    simp only [World.size_alloc] at hz10
    go_wp2_with fail
    go_ret
    exact ⟨by rw [hv.out]; rfl, ((((((((((((((((((((((((((((((hb0).alloc (by omega) _).trans (hb1.mono (by first | omega | (simp; done) | (simp; omega))))).alloc (by omega) _).trans (hb2.mono (by first | omega | (simp; done) | (simp; omega))))).alloc (by omega) _).trans (hb3.mono (by first | omega | (simp; done) | (simp; omega))))).alloc (by omega) _).trans (hb4.mono (by first | omega | (simp; done) | (simp; omega))))).alloc (by omega) _).trans (hb5.mono (by first | omega | (simp; done) | (simp; omega))))).alloc (by omega) _).trans (hb6.mono (by first | omega | (simp; done) | (simp; omega))))).alloc (by omega) _).trans (hb7.mono (by first | omega | (simp; done) | (simp; omega))))).alloc (by omega) _).trans (hb8.mono (by first | omega | (simp; done) | (simp; omega))))).alloc (by omega) _).trans (hb9.mono (by first | omega | (simp; done) | (simp; omega))))).alloc (by omega) _).trans (hb10.mono (by first | omega | (simp; done) | (simp; omega))))⟩
  have H9 : Hid ((decide ((8304 : Int) ≤ c) && decide (c ≤ 8591)) = false) := by show _ = _; simp; omega
  go_wp2_with fail
  refine (has_any 8304 8591 _ _ false H9).mono ?_; rintro e w10 ⟨rfl, hb10⟩
  have hz10 := hb10.size
  simp only [World.size_alloc] at hz10
  go_wp2_with fail
  rw [rounds_succ]
  by_cases h10 : 11264 ≤ c ∧ c ≤ 12271
  · have H10 : Hid ((decide ((11264 : Int) ≤ c) && decide (c ≤ 12271)) = true) := by show _ = _; simp [h10]
    have hv : Hid (startB c = true) := by show _ = _; unfold startB; simp; omega
    clear h10
    go_wp2_with fail
    refine (has_any 11264 12271 _ _ true H10).mono ?_; rintro e w11 ⟨rfl, hb11⟩
    have hz11 := hb11.size
    simp only [World.size_alloc] at hz11
    go_wp2_with fail
    go_ret
    exact ⟨by rw [hv.out]; rfl, (((((((((((((((((((((((((((((((((hb0).alloc (by omega) _).trans (hb1.mono (by first | omega | (simp; done) | (simp; omega))))).alloc (by omega) _).trans (hb2.mono (by first | omega | (simp; done) | (simp; omega))))).alloc (by omega) _).trans (hb3.mono (by first | omega | (simp; done) | (simp; omega))))).alloc (by omega) _).trans (hb4.mono (by first | omega | (simp; done) | (simp; omega))))).alloc (by omega) _).trans (hb5.mono (by first | omega | (simp; done) | (simp; omega))))).alloc (by omega) _).trans (hb6.mono (by first | omega | (simp; done) | (simp; omega))))).alloc (by omega) _).trans (hb7.mono (by first | omega | (simp; done) | (simp; omega))))).alloc (by omega) _).trans (hb8.mono (by first | omega | (simp; done) | (simp; omega))))).alloc (by omega) _).trans (hb9.mono (by first | omega | (simp; done) | (simp; omega))))).alloc (by omega) _).trans (hb10.mono (by first | omega | (simp; done) | (simp; omega))))).alloc (by omega) _).trans (hb11.mono (by first | omega | (simp; done) | (simp; omega))))⟩
  have H10 : Hid ((decide ((11264 : Int) ≤ c) && decide (c ≤ 12271)) = false) := by show _ = _; simp; omega
  go_wp2_with fail
  refine (has_any 11264 12271 _ _ false H10).mono ?_; rintro e w11 ⟨rfl, hb11⟩
  have hz11 := hb11.size
  simp only [World.size_alloc] at hz11
  go_wp2_with fail
  rw [rounds_succ]
  by_cases h11 : 12289 ≤ c ∧ c ≤ 55295
  · have H11 : Hid ((decide ((12289 : Int) ≤ c) && decide (c ≤ 55295)) = true) := by show _ = _; simp [h11]
    have hv : Hid (startB c = true) := by show _ = _; unfold startB; simp; omega
    clear h11
    go_wp2_with fail
    refine (has_any 12289 55295 _ _ true H11).mono ?_; rintro e w12 ⟨rfl, hb12⟩
    have hz12 := hb12.size
    simp only [World.size_alloc] at hz12
    go_wp2_with fail
    go_ret
    exact ⟨by rw [hv.out]; rfl, ((((((((((((((((((((((((((((((((((((hb0).alloc (by omega) _).trans (hb1.mono (by first | omega | (simp; done) | (simp; omega))))).alloc (by omega) _).trans (hb2.mono (by first | omega | (simp; done) | (simp; omega))))).alloc (by omega) _).trans (hb3.mono (by first | omega | (simp; done) | (simp; omega))))).alloc (by omega) _).trans (hb4.mono (by first | omega | (simp; done) | (simp; omega))))).alloc (by omega) _).trans (hb5.mono (by first | omega | (simp; done) | (simp; omega))))).alloc (by omega) _).trans (hb6.mono (by first | omega | (simp; done) | (simp; omega))))).alloc (by omega) _).trans (hb7.mono (by first | omega | (simp; done) | (simp; omega))))).alloc (by omega) _).trans (hb8.mono (by first | omega | (simp; done) | (simp; omega))))).alloc (by omega) _).trans (hb9.mono (by first | omega | (simp; done) | (simp; omega))))).alloc (by omega) _).trans (hb10.mono (by first | omega | (simp; done) | (simp; omega))))).alloc (by omega) _).trans (hb11.mono (by first | omega | (simp; done) | (simp; omega))))).alloc (by omega) _).trans (hb12.mono (by first | omega | (simp; done) | (simp; omega))))⟩
  have H11 : Hid ((decide ((12289 : Int) ≤ c) && decide (c ≤ 55295)) = false) := by show _ = _; simp; omega
  go_wp2_with fail
  refine (has_any 12289 55295 _ _ false H11).mono ?_; rintro e w12 ⟨rfl, hb12⟩
  have hz12 := hb12.size
  simp only [World.size_alloc] at hz12
  go_wp2_with fail
  rw [rounds_succ]
  by_cases h12 : 63744 ≤ c ∧ c ≤ 64975
  · have H12 : Hid ((decide ((63744 : Int) ≤ c) && decide (c ≤ 64975)) = true) := by show _ = _; simp [h12]
    have hv : Hid (startB c = true) := by show _ = _; unfold startB; simp; omega
    clear h12
    go_wp2_with fail
    refine (has_any 63744 64975 _ _ true H12).mono ?_; rintro e w13 ⟨rfl, hb13⟩
    have hz13 := hb13.size
    simp only [World.size_alloc] at hz13
    go_wp2_with fail
    go_ret
    exact ⟨by rw [hv.out]; rfl, (((((((((((((((((((((((((((((((((((((((hb0).alloc (by omega) _).trans (hb1.mono (by first | omega | (simp; done) | (simp; omega))))).alloc (by omega) _).trans (hb2.mono (by first | omega | (simp; done) | (simp; omega))))).alloc (by omega) _).trans (hb3.mono (by first | omega | (simp; done) | (simp; omega))))).alloc (by omega) _).trans (hb4.mono (by first | omega | (simp; done) | (simp; omega))))).alloc (by omega) _).trans (hb5.mono (by first | omega | (simp; done) | (simp; omega))))).alloc (by omega) _).trans (hb6.mono (by first | omega | (simp; done) | (simp; omega))))).alloc (by omega) _).trans (hb7.mono (by first | omega | (simp; done) | (simp; omega))))).alloc (by omega) _).trans (hb8.mono (by first | omega | (simp; done) | (simp; omega))))).alloc (by omega) _).trans (hb9.mono (by first | omega | (simp; done) | (simp; omega))))).alloc (by omega) _).trans (hb10.mono (by first | omega | (simp; done) | (simp; omega))))).alloc (by omega) _).trans (hb11.mono (by first | omega | (simp; done) | (simp; omega))))).alloc (by omega) _).trans (hb12.mono (by first | omega | (simp; done) | (simp; omega))))).alloc (by omega) _).trans (hb13.mono (by first | omega | (simp; done) | (simp; omega))))⟩
  have H12 : Hid ((decide ((63744 : Int) ≤ c) && decide (c ≤ 64975)) = false) := by show _ = _; simp; omega
  go_wp2_with fail
  refine (has_any 63744 64975 _ _ false H12).mono ?_; rintro e w13 ⟨rfl, hb13⟩
  have hz13 := hb13.size
  simp only [World.size_alloc] at hz13
  go_wp2_with fail
  rw [rounds_succ]
  by_cases h13 : 65008 ≤ c ∧ c ≤ 65533
  · have H13 : Hid ((decide ((65008 : Int) ≤ c) && decide (c ≤ 65533)) = true) := by show _ = _; simp [h13]
    have hv : Hid (startB c = true) := by show _ = _; unfold startB; simp; omega
    clear h13
    go_wp2_with fail
    refine (has_any 65008 65533 _ _ true H13).mono ?_; rintro e w14 ⟨rfl, hb14⟩
    have hz14 := hb14.size
    simp only [World.size_alloc] at hz14
    go_wp2_with fail
    go_ret
    exact ⟨by rw [hv.out]; rfl, ((((((((((((((((((((((((((((((((((((((((((hb0).alloc (by omega) _).trans (hb1.mono (by first | omega | (simp; done) | (simp; omega))))).alloc (by omega) _).trans (hb2.mono (by first | omega | (simp; done) | (simp; omega))))).alloc (by omega) _).trans (hb3.mono (by first | omega | (simp; done) | (simp; omega))))).alloc (by omega) _).trans (hb4.mono (by first | omega | (simp; done) | (simp; omega))))).alloc (by omega) _).trans (hb5.mono (by first | omega | (simp; done) | (simp; omega))))).alloc (by omega) _).trans (hb6.mono (by first | omega | (simp; done) | (simp; omega))))).alloc (by omega) _).trans (hb7.mono (by first | omega | (simp; done) | (simp; omega))))).alloc (by omega) _).trans (hb8.mono (by first | omega | (simp; done) | (simp; omega))))).alloc (by omega) _).trans (hb9.mono (by first | omega | (simp; done) | (simp; omega))))).alloc (by omega) _).trans (hb10.mono (by first | omega | (simp; done) | (simp; omega))))).alloc (by omega) _).trans (hb11.mono (by first | omega | (simp; done) | (simp; omega))))).alloc (by omega) _).trans (hb12.mono (by first | omega | (simp; done) | (simp; omega))))).alloc (by omega) _).trans (hb13.mono (by first | omega | (simp; done) | (simp; omega))))).alloc (by omega) _).trans (hb14.mono (by first | omega | (simp; done) | (simp; omega))))⟩
  have H13 : Hid ((decide ((65008 : Int) ≤ c) && decide (c ≤ 65533)) = false) := by show _ = _; simp; omega
  go_wp2_with fail
  refine (has_any 65008 65533 _ _ false H13).mono ?_; rintro e w14 ⟨rfl, hb14⟩
  have hz14 := hb14.size
  simp only [World.size_alloc] at hz14
  go_wp2_with fail
  rw [rounds_succ]
  by_cases h14 : 65536 ≤ c ∧ c ≤ 983039
  · have H14 : Hid ((decide ((65536 : Int) ≤ c) && decide (c ≤ 983039)) = true) := by show _ = _; simp [h14]
    have hv : Hid (startB c = true) := by show _ = _; unfold startB; simp; omega
    clear h14
    go_wp2_with fail
    refine (has_any 65536 983039 _ _ true H14).mono ?_; rintro e w15 ⟨rfl, hb15⟩
    have hz15 := hb15.size
    simp only [World.size_alloc] at hz15
    go_wp2_with fail
    go_ret
    exact ⟨by rw [hv.out]; rfl, (((((((((((((((((((((((((((((((((((((((((((((hb0).alloc (by omega) _).trans (hb1.mono (by first | omega | (simp; done) | (simp; omega))))).alloc (by omega) _).trans (hb2.mono (by first | omega | (simp; done) | (simp; omega))))).alloc (by omega) _).trans (hb3.mono (by first | omega | (simp; done) | (simp; omega))))).alloc (by omega) _).trans (hb4.mono (by first | omega | (simp; done) | (simp; omega))))).alloc (by omega) _).trans (hb5.mono (by first | omega | (simp; done) | (simp; omega))))).alloc (by omega) _).trans (hb6.mono (by first | omega | (simp; done) | (simp; omega))))).alloc (by omega) _).trans (hb7.mono (by first | omega | (simp; done) | (simp; omega))))).alloc (by omega) _).trans (hb8.mono (by first | omega | (simp; done) | (simp; omega))))).alloc (by omega) _).trans (hb9.mono (by first | omega | (simp; done) | (simp; omega))))).alloc (by omega) _).trans (hb10.mono (by first | omega | (simp; done) | (simp; omega))))).alloc (by omega) _).trans (hb11.mono (by first | omega | (simp; done) | (simp; omega))))).alloc (by omega) _).trans (hb12.mono (by first | omega | (simp; done) | (simp; omega))))).alloc (by omega) _).trans (hb13.mono (by first | omega | (simp; done) | (simp; omega))))).alloc (by omega) _).trans (hb14.mono (by first | omega | (simp; done) | (simp; omega))))).alloc (by omega) _).trans (hb15.mono (by first | omega | (simp; done) | (simp; omega))))⟩
  have H14 : Hid ((decide ((65536 : Int) ≤ c) && decide (c ≤ 983039)) = false) := by show _ = _; simp; omega
  go_wp2_with fail
  refine (has_any 65536 983039 _ _ false H14).mono ?_; rintro e w15 ⟨rfl, hb15⟩
  have hz15 := hb15.size
  simp only [World.size_alloc] at hz15
  go_wp2_with fail
  rw [rounds_succ]
  have hv : Hid (startB c = false) := by show _ = _; unfold startB; simp; omega
  clear h0 h1 h2 h3 h4 h5 h6 h7 h8 h9 h10 h11 h12 h13 h14
  go_wp2_with fail
  go_ret
  exact ⟨by rw [hv.out]; rfl, (((((((((((((((((((((((((((((((((((((((((((((hb0).alloc (by omega) _).trans (hb1.mono (by first | omega | (simp; done) | (simp; omega))))).alloc (by omega) _).trans (hb2.mono (by first | omega | (simp; done) | (simp; omega))))).alloc (by omega) _).trans (hb3.mono (by first | omega | (simp; done) | (simp; omega))))).alloc (by omega) _).trans (hb4.mono (by first | omega | (simp; done) | (simp; omega))))).alloc (by omega) _).trans (hb5.mono (by first | omega | (simp; done) | (simp; omega))))).alloc (by omega) _).trans (hb6.mono (by first | omega | (simp; done) | (simp; omega))))).alloc (by omega) _).trans (hb7.mono (by first | omega | (simp; done) | (simp; omega))))).alloc (by omega) _).trans (hb8.mono (by first | omega | (simp; done) | (simp; omega))))).alloc (by omega) _).trans (hb9.mono (by first | omega | (simp; done) | (simp; omega))))).alloc (by omega) _).trans (hb10.mono (by first | omega | (simp; done) | (simp; omega))))).alloc (by omega) _).trans (hb11.mono (by first | omega | (simp; done) | (simp; omega))))).alloc (by omega) _).trans (hb12.mono (by first | omega | (simp; done) | (simp; omega))))).alloc (by omega) _).trans (hb13.mono (by first | omega | (simp; done) | (simp; omega))))).alloc (by omega) _).trans (hb14.mono (by first | omega | (simp; done) | (simp; omega))))).alloc (by omega) _).trans (hb15.mono (by first | omega | (simp; done) | (simp; omega))))⟩
end Go.Proofs.Ythifddkmbjnncaa

/-
  The walk of glyph.Part.
-/
namespace Go.Proofs.Ythifddkmbjnncaa
open Go.RowKit


set_option maxRecDepth 100000 in
set_option maxHeartbeats 4000000 in
theorem Part_any (c : Int) (w : World) :
    Calls Try.prog 46 #[.int .i32 c] w (Ret w (.bool (partB c))) := by
  have q0 := pt_0
  have q1 := pt_1
  have q2 := pt_2
  have q3 := pt_3
  have q4 := pt_4
  have ht : (#[Value.int .i32 45, Value.int .i32 46, Value.int .i32 48, Value.int .i32 57, Value.int .i32 183, Value.int .i32 183, Value.int .i32 768, Value.int .i32 879, Value.int .i32 8255, Value.int .i32 8256] : Array Value) = partsTab := rfl
  go_enter Try.func46, Try.ntmps46
  go_wp2_with fail
  refine wp_loop_rounds 6 ?_
  rw [rounds_succ]
  by_cases h0 : 45 ≤ c ∧ c ≤ 46
  · have H0 : Hid ((decide ((45 : Int) ≤ c) && decide (c ≤ 46)) = true) := by show _ = _; simp [h0]
    have hv : Hid (partB c = true) := by show _ = _; unfold partB; simp; right; omega
    clear h0
    go_wp2_with fail
    refine (has_any 45 46 _ _ true H0).mono ?_; rintro e w1 ⟨rfl, hb1⟩
    have hz1 := hb1.size
    simp only [World.size_alloc] at hz1
    go_wp2_with fail
    go_ret
    exact ⟨by rw [hv.out]; rfl, ((((Below.refl w.heap.size w)).alloc (by omega) _).trans (hb1.mono (by first | omega | (simp; done) | (simp; omega))))⟩
  have H0 : Hid ((decide ((45 : Int) ≤ c) && decide (c ≤ 46)) = false) := by show _ = _; simp; omega
  go_wp2_with fail
  refine (has_any 45 46 _ _ false H0).mono ?_; rintro e w1 ⟨rfl, hb1⟩
  have hz1 := hb1.size
  simp only [World.size_alloc] at hz1
  go_wp2_with fail
  rw [rounds_succ]
  by_cases h1 : 48 ≤ c ∧ c ≤ 57
  · have H1 : Hid ((decide ((48 : Int) ≤ c) && decide (c ≤ 57)) = true) := by show _ = _; simp [h1]
    have hv : Hid (partB c = true) := by show _ = _; unfold partB; simp; right; omega
    clear h1
    go_wp2_with fail
    refine (has_any 48 57 _ _ true H1).mono ?_; rintro e w2 ⟨rfl, hb2⟩
    have hz2 := hb2.size
    simp only [World.size_alloc] at hz2
    go_wp2_with fail
    go_ret
    exact ⟨by rw [hv.out]; rfl, (((((((Below.refl w.heap.size w)).alloc (by omega) _).trans (hb1.mono (by first | omega | (simp; done) | (simp; omega))))).alloc (by omega) _).trans (hb2.mono (by first | omega | (simp; done) | (simp; omega))))⟩
  have H1 : Hid ((decide ((48 : Int) ≤ c) && decide (c ≤ 57)) = false) := by show _ = _; simp; omega
  go_wp2_with fail
  refine (has_any 48 57 _ _ false H1).mono ?_; rintro e w2 ⟨rfl, hb2⟩
  have hz2 := hb2.size
  simp only [World.size_alloc] at hz2
  go_wp2_with fail
  rw [rounds_succ]
  by_cases h2 : 183 ≤ c ∧ c ≤ 183
  · have H2 : Hid ((decide ((183 : Int) ≤ c) && decide (c ≤ 183)) = true) := by show _ = _; simp [h2]
    have hv : Hid (partB c = true) := by show _ = _; unfold partB; simp; right; omega
    clear h2
    go_wp2_with fail
    refine (has_any 183 183 _ _ true H2).mono ?_; rintro e w3 ⟨rfl, hb3⟩
    have hz3 := hb3.size
    simp only [World.size_alloc] at hz3
    go_wp2_with fail
    go_ret
    exact ⟨by rw [hv.out]; rfl, ((((((((((Below.refl w.heap.size w)).alloc (by omega) _).trans (hb1.mono (by first | omega | (simp; done) | (simp; omega))))).alloc (by omega) _).trans (hb2.mono (by first | omega | (simp; done) | (simp; omega))))).alloc (by omega) _).trans (hb3.mono (by first | omega | (simp; done) | (simp; omega))))⟩
  have H2 : Hid ((decide ((183 : Int) ≤ c) && decide (c ≤ 183)) = false) := by show _ = _; simp; omega
  go_wp2_with fail
  refine (has_any 183 183 _ _ false H2).mono ?_; rintro e w3 ⟨rfl, hb3⟩
  have hz3 := hb3.size
  simp only [World.size_alloc] at hz3
  go_wp2_with fail
  rw [rounds_succ]
  by_cases h3 : 768 ≤ c ∧ c ≤ 879
  · have H3 : Hid ((decide ((768 : Int) ≤ c) && decide (c ≤ 879)) = true) := by show _ = _; simp [h3]
    have hv : Hid (partB c = true) := by show _ = _; unfold partB; simp; right; omega
    clear h3
    go_wp2_with fail
    refine (has_any 768 879 _ _ true H3).mono ?_; rintro e w4 ⟨rfl, hb4⟩
    have hz4 := hb4.size
    simp only [World.size_alloc] at hz4
    go_wp2_with fail
    go_ret
    exact ⟨by rw [hv.out]; rfl, (((((((((((((Below.refl w.heap.size w)).alloc (by omega) _).trans (hb1.mono (by first | omega | (simp; done) | (simp; omega))))).alloc (by omega) _).trans (hb2.mono (by first | omega | (simp; done) | (simp; omega))))).alloc (by omega) _).trans (hb3.mono (by first | omega | (simp; done) | (simp; omega))))).alloc (by omega) _).trans (hb4.mono (by first | omega | (simp; done) | (simp; omega))))⟩
  have H3 : Hid ((decide ((768 : Int) ≤ c) && decide (c ≤ 879)) = false) := by show _ = _; simp; omega
  go_wp2_with fail
  refine (has_any 768 879 _ _ false H3).mono ?_; rintro e w4 ⟨rfl, hb4⟩
  have hz4 := hb4.size
  simp only [World.size_alloc] at hz4
  go_wp2_with fail
  rw [rounds_succ]
  by_cases h4 : 8255 ≤ c ∧ c ≤ 8256
  · have H4 : Hid ((decide ((8255 : Int) ≤ c) && decide (c ≤ 8256)) = true) := by show _ = _; simp [h4]
    have hv : Hid (partB c = true) := by show _ = _; unfold partB; simp; right; omega
    clear h4
    go_wp2_with fail
    refine (has_any 8255 8256 _ _ true H4).mono ?_; rintro e w5 ⟨rfl, hb5⟩
    have hz5 := hb5.size
    simp only [World.size_alloc] at hz5
    go_wp2_with fail
    go_ret
    exact ⟨by rw [hv.out]; rfl, ((((((((((((((((Below.refl w.heap.size w)).alloc (by omega) _).trans (hb1.mono (by first | omega | (simp; done) | (simp; omega))))).alloc (by omega) _).trans (hb2.mono (by first | omega | (simp; done) | (simp; omega))))).alloc (by omega) _).trans (hb3.mono (by first | omega | (simp; done) | (simp; omega))))).alloc (by omega) _).trans (hb4.mono (by first | omega | (simp; done) | (simp; omega))))).alloc (by omega) _).trans (hb5.mono (by first | omega | (simp; done) | (simp; omega))))⟩
  have H4 : Hid ((decide ((8255 : Int) ≤ c) && decide (c ≤ 8256)) = false) := by show _ = _; simp; omega
  go_wp2_with fail
  refine (has_any 8255 8256 _ _ false H4).mono ?_; rintro e w5 ⟨rfl, hb5⟩
  have hz5 := hb5.size
  simp only [World.size_alloc] at hz5
  go_wp2_with fail
  rw [rounds_succ]
  have hv : Hid (partB c = startB c) := by show _ = _; unfold partB; rw [Bool.or_eq_left_iff_imp]; simp; omega
  clear h0 h1 h2 h3 h4
  go_wp2_with fail
  refine (Start_any _ _).mono ?_; rintro e w9 ⟨rfl, hb9⟩
  have hz9 := hb9.size
  go_wp2_with fail
  go_ret
  exact ⟨by rw [hv.out]; rfl, (((((((((((((((((Below.refl w.heap.size w)).alloc (by omega) _).trans (hb1.mono (by first | omega | (simp; done) | (simp; omega))))).alloc (by omega) _).trans (hb2.mono (by first | omega | (simp; done) | (simp; omega))))).alloc (by omega) _).trans (hb3.mono (by first | omega | (simp; done) | (simp; omega))))).alloc (by omega) _).trans (hb4.mono (by first | omega | (simp; done) | (simp; omega))))).alloc (by omega) _).trans (hb5.mono (by first | omega | (simp; done) | (simp; omega))))).trans (hb9.mono (by omega))⟩
end Go.Proofs.Ythifddkmbjnncaa

/-
  The walks of glyph.Name$1, glyph.each with it, glyph.Name.
-/
namespace Go.Proofs.Ythifddkmbjnncaa
open Go.RowKit

theorem Part_as (c : Int) (w : World) (r : Bool) (h : Hid (partB c = r)) : Calls Try.prog 46 #[.int .i32 c] w (Ret w (.bool r)) := by
  rw [← h.out]; exact Part_any c w
theorem Start_as (c : Int) (w : World) (r : Bool) (h : Hid (startB c = r)) : Calls Try.prog 47 #[.int .i32 c] w (Ret w (.bool r)) := by
  rw [← h.out]; exact Start_any c w

set_option maxRecDepth 100000 in
set_option maxHeartbeats 1000000 in
theorem name1_any (c : Int) (first : Bool) (w : World) (r : Bool) (h : Hid ((partB c && (!first || startB c)) = r)) :
    Calls Try.prog 45 #[.int .i32 c, .bool first] w (Ret w (.bool r)) := by
  rw [← h.out]
  clear h
  obtain ⟨p, hp⟩ : ∃ p, Hid (partB c = p) := ⟨_, rfl⟩
  obtain ⟨q, hq⟩ : ∃ q, Hid (startB c = q) := ⟨_, rfl⟩
  rw [hp.out, hq.out]
  cases p <;> cases first <;> cases q
  all_goals
    go_enter Try.func45, Try.ntmps45
    go_wp2_with (first
      | (go_at_call 46; refine (Part_as c _ _ hp).mono ?_; rintro e w2 ⟨rfl, hb2⟩)
      | (go_at_call 47; refine (Start_as c _ _ hq).mono ?_; rintro e w3 ⟨rfl, hb3⟩))
    go_ret
    first
      | exact ⟨rfl, hb2⟩
      | exact ⟨rfl, hb2.trans (hb3.mono (by have := hb2.size; omega))⟩

set_option maxRecDepth 100000 in
set_option maxHeartbeats 1000000 in
theorem each_name (s : ByteArray) (b : Nat) (w : World) (hs : s.size ≤ maxLen) (hb : b < w.heap.size)
    (hc : w.cell? ⟨b, 0, none⟩ = some (.func (.func 45) #[] #[])) (V : Int) (hV : Hid (eachI 0 s.data.toList = V)) :
    Calls Try.prog 44 #[.string s, .slice (some ⟨b, 0, none⟩) 1 1] w (Ret w (.int .i64 V)) := by
  unfold maxLen at hs
  have HC := Lib.hid hc
  clear hc
  go_enter Try.func44, Try.ntmps44
  go_wp2_with fail
  go_loopw [0, 5] (fun sv mv wr => ∃ (t : ByteArray) (k : Nat), sv = .string t ∧ mv = .int .i64 k ∧ k + t.size ≤ s.size ∧ Hid (eachI k t.data.toList = V) ∧ Below w.heap.size w wr) (fun sv _ _ => (strOf sv).size)
  case atStart => exact ⟨s, 0, rfl, rfl, by omega, hV, Below.refl _ _⟩
  case round =>
    obtain ⟨t, k, rfl, rfl, hkt, hyes, hbel⟩ := hrel
    have hwr := hbel.size
    have HL := Lib.hid (size_toList t)
    by_cases he : t.toList.isEmpty = true
    · have hnil : t.data.toList = [] := by rw [ByteArray.toList_eq] at he; simpa using he
      have hv : Hid (V = k) := by
        have := hyes.out
        rw [hnil, eachI_nil] at this
        exact this.symm
      clear hnil
      go_wp2_with fail
      go_ret
      exact ⟨by rw [hv.out]; rfl, hbel⟩
    · have hne : t.toList.isEmpty = false := by simpa using he
      clear he
      have hnn : Hid (t.data.toList ≠ []) := by
        intro h
        rw [ByteArray.toList_eq, h] at hne
        cases hne
      obtain ⟨c, n, hq⟩ : ∃ c n, Hid (nextL t.data.toList = (c, n)) := ⟨_, _, rfl⟩
      have hle := nextL_le t.data.toList
      rw [hq.out, HL.out] at hle
      obtain ⟨hn1, hn4⟩ := hle
      simp only at hn1 hn4
      by_cases hn : n = 0
      · have hv : Hid (V = -1) := by
          have := eachI_bad k t.data.toList hnn.out (by rw [hq.out]; exact hn)
          exact hyes.out.symm.trans this
        have hn0 : ((n : Int) == 0) = true := by simp [hn]
        clear hn
        go_wp2_with (go_at_call 77; refine (Next_as t wr (by unfold maxLen; omega) c n hq).mono ?_; rintro e w2 ⟨rfl, hb2⟩)
        go_ret
        exact ⟨by rw [hv.out]; rfl, hbel.trans (hb2.mono (by omega))⟩
      · have hn0 : ((n : Int) == 0) = false := by simp [hn]
        have hnp : 1 ≤ n := by omega
        have HN : Hid ((nextL t.data.toList).2 ≠ 0) := by show _; rw [hq.out]; exact hn
        clear hn
        obtain ⟨f, hf⟩ : ∃ f, Hid (((k : Int) == 0) = f) := ⟨_, rfl⟩
        have hf' : Hid ((k == 0) = f) := by
          show _ = _
          rw [← hf.out, Bool.eq_iff_iff]; simp
        obtain ⟨r, hr⟩ : ∃ r, Hid ((partB c && (!f || startB c)) = r) := ⟨_, rfl⟩
        go_wp2_with fail
        refine (Next_as t wr (by unfold maxLen; omega) c n hq).mono ?_
        rintro e w2 ⟨rfl, hb2⟩
        obtain ⟨wo, rfl⟩ : ∃ wo : World, wo = wr := ⟨_, rfl⟩
        have hbel2 := hbel.trans (hb2.mono (by omega))
        have hz2 := hbel2.size
        have hcell : w2.cell? ⟨b, 0, none⟩ = some (.func (.func 45) #[] #[]) := by
          rw [hbel2.cell (p := ⟨b, 0, none⟩) hb]; exact HC.out
        have hfv := hf.out
        go_wp2_with fail
        cases r with
        | false =>
          have hv : Hid (V = -1) := by
            have := eachI_no k t.data.toList hnn.out HN.out (by rw [hq.out, hf'.out]; exact hr.out)
            exact hyes.out.symm.trans this
          refine wp_loop_rounds 1 ?_
          rw [rounds_succ]
          go_wp2_with (go_at_call 45; refine (name1_any c f _ _ hr).mono ?_; rintro e w3 ⟨rfl, hb3⟩)
          go_ret
          exact ⟨by rw [hv.out]; rfl, hbel2.trans (hb3.mono (by omega))⟩
        | true =>
          have hx : (t.extract n t.size).data.toList = t.data.toList.drop n := Lib.extract_to_end t n
          have hxs : (t.extract n t.size).size = t.size - n := by simp
          have hst : Hid (eachI (k + 1) (t.extract n t.size).data.toList = V) := by
            have := eachI_step k t.data.toList hnn.out HN.out (by rw [hq.out, hf'.out]; exact hr.out)
            rw [hq.out] at this
            show _ = _
            rw [hx, ← hyes.out, this]
          have HX := Lib.hid hxs
          clear hx hxs
          refine wp_loop_rounds 2 ?_
          rw [rounds_succ]
          go_wp2_with (go_at_call 45; refine (name1_any c f _ _ hr).mono ?_; rintro e w3 ⟨rfl, hb3⟩)
          rw [rounds_succ]
          go_wp2_with fail
          go_roundw
          case rel => exact ⟨t.extract n t.size, k + 1, rfl, by go_num, by rw [HX.out]; omega, hst, hbel2.trans (hb3.mono (by omega))⟩
          case measure =>
            show (t.extract n t.size).size < t.size
            rw [HX.out]; omega

set_option maxRecDepth 100000 in
set_option maxHeartbeats 1000000 in
theorem Name_any (s : ByteArray) (w : World) (hs : s.size ≤ maxLen) (r : Bool) (hr : Hid (nameL s.data.toList = r)) :
    Calls Try.prog 21 #[.string s] w (Ret w (.bool r)) := by
  have hr' := hr.out
  rw [nameL_each, size_toList] at hr'
  have HL := Lib.hid hr'
  clear hr hr'
  by_cases he : s.toList.isEmpty = true
  · have hnil : s.data.toList = [] := by rw [ByteArray.toList_eq] at he; simpa using he
    have hv : Hid (r = false) := by show _ = _; rw [← HL.out, hnil]; simp
    clear hnil HL
    go_enter Try.func21, Try.ntmps21
    go_wp2_with fail
    go_ret
    exact ⟨by rw [hv.out]; rfl, Below.refl _ _⟩
  · have hne : s.toList.isEmpty = false := by simpa using he
    clear he
    have hnn : Hid (s.data.toList ≠ []) := by
      intro h
      rw [ByteArray.toList_eq, h] at hne
      cases hne
    by_cases h60 : s.size ≤ 60
    · obtain ⟨V, hV⟩ : ∃ V, Hid (eachI 0 s.data.toList = V) := ⟨_, rfl⟩
      have hz : (s.size : Int) ≤ 60 := by omega
      have hv : Hid (decide (0 < V) = r) := by
        show _ = _
        rw [← HL.out, hV.out]; simp [h60, hnn.out]
      clear h60
      go_enter Try.func21, Try.ntmps21
      go_wp2_with fail
      refine (each_name s w.heap.size _ hs (by simp) (World.cell?_alloc_at _ _ _ _ (by simp)) V hV).mono ?_
      rintro e w2 ⟨rfl, hb2⟩
      go_wp2_with fail
      go_ret
      refine ⟨by rw [← hv.out]; rfl, ((Below.refl _ w).alloc (Nat.le_refl _) _).trans (hb2.mono (by simp))⟩
    · have hz : 60 < (s.size : Int) := by omega
      have hv : Hid (r = false) := by show _ = _; rw [← HL.out]; simp [h60]
      clear h60
      go_enter Try.func21, Try.ntmps21
      go_wp2_with fail
      go_ret
      exact ⟨by rw [hv.out]; rfl, Below.refl _ _⟩
end Go.Proofs.Ythifddkmbjnncaa

/-
  The walks of the document's All, escaped, Text and Value.
-/
namespace Go.Proofs.Ythifddkmbjnncaa
open Go.RowKit

theorem infoRune : (Try.prog.info? 21).map (fun i => (i.zero, i.size, i.bytes)) = some (some (.int .i32 0), 1, 4) := by kernel_rfl

theorem RNext_as (s : ByteArray) (w : World) (hs : s.size ≤ maxLen) (c : Int) (n : Nat) (h : Hid (nextL s.data.toList = (c, n))) :
    Calls Try.prog 112 #[.string s] w (Ret w (.tuple #[.int .i32 c, .int .i64 (n : Nat)])) := by
  have := RNext_any s w hs
  rw [h.out] at this
  exact this

/-- A list of numbers of the call's own. -/
def OwnRunes (w w' : World) (v : Value) (cs : List Int) : Prop := w'.ownsRow w.heap.size 21 1 v cs.length (cs.map (Value.int .i32))
def AllPost (w : World) (r : Option (List Int)) (e : Ending) (w' : World) : Prop :=
  ∃ ad c, e = .returned (.tuple #[.slice ad (r.getD []).length c, .bool r.isSome]) ∧ OwnRunes w w' (.slice ad (r.getD []).length c) (r.getD []) ∧ Below w.heap.size w w'

set_option maxRecDepth 100000 in
set_option maxHeartbeats 1000000 in
theorem RAll_any (s : ByteArray) (w : World) (hs : s.size ≤ 1000000000) :
    Calls Try.prog 108 #[.string s] w (AllPost w (charsL s.data.toList)) := by
  go_enter Try.func108, Try.ntmps108
  go_wp2_with fail
  go_loopw [0, 4] (fun sv v wr => ∃ (t : ByteArray) (acc : List Int) (ad : Option Addr) (cp : Nat), sv = .string t ∧ v = .slice ad acc.length cp ∧ t.size ≤ s.size ∧ Hid (charsL s.data.toList = (charsL t.data.toList).map (acc ++ ·)) ∧ acc.length + t.size ≤ s.size ∧
      wr.ownsRow w.heap.size 21 1 (.slice ad acc.length cp) acc.length (acc.map (Value.int .i32)) ∧ Below w.heap.size w wr) (fun sv _ _ => (strOf sv).size)
  case atStart =>
    refine ⟨s, [], none, 0, rfl, rfl, Nat.le_refl _, ?_, by simp, World.ownsRow_nil _ _ _ _, Below.refl _ _⟩
    show _ = _
    cases charsL s.data.toList <;> simp
  case round =>
    obtain ⟨t, acc, ad, cp, rfl, rfl, hts, hesc, hal, hown, hbel⟩ := hrel
    have hwz := hbel.size
    have hl := size_toList t
    by_cases he : t.toList.isEmpty = true
    · have hnil : t.data.toList = [] := by rw [ByteArray.toList_eq] at he; simpa using he
      have hv : Hid (charsL s.data.toList = some acc) := by
        show _ = _
        rw [hesc.out, hnil, charsL_nil]; simp
      go_wp2_with fail
      go_ret2
      refine ⟨ad, cp, ?_, ?_, hbel⟩
      · rw [hv.out]; rfl
      · rw [hv.out]; exact hown
    · have hne : t.toList.isEmpty = false := by simpa using he
      clear he
      have hnn : Hid (t.data.toList ≠ []) := by
        intro h
        rw [ByteArray.toList_eq, h] at hne
        cases hne
      obtain ⟨c, n, hq⟩ : ∃ c n, Hid (nextL t.data.toList = (c, n)) := ⟨_, _, rfl⟩
      have hle := nextL_le t.data.toList
      rw [hq.out] at hle
      obtain ⟨hn1, hn4⟩ := hle
      rw [hl] at hn1
      simp only at hn1 hn4
      by_cases hn : n = 0
      · have hv : Hid (charsL s.data.toList = none) := by
          show _ = _
          rw [hesc.out, charsL_bad _ hnn.out (by rw [hq.out]; exact hn)]; rfl
        have hn0 : ((n : Int) == 0) = true := by simp [hn]
        clear hn
        go_wp2_with (go_at_call 112; refine (RNext_as t wr (by unfold maxLen; omega) c n hq).mono ?_; rintro e w2 ⟨rfl, hb2⟩)
        go_ret2
        refine ⟨none, 0, ?_, ?_, hbel.trans (hb2.mono (by omega))⟩
        · rw [hv.out]; rfl
        · rw [hv.out]; exact World.ownsRow_nil _ _ _ _
      · have hn0 : ((n : Int) == 0) = false := by simp [hn]
        have hesc' := charsL_step t.data.toList hnn.out (by rw [hq.out]; exact hn)
        rw [hq.out] at hesc'
        have HS := Lib.hid hesc'
        clear hesc'
        have hnp : 1 ≤ n := by omega
        clear hn
        go_wp2_with fail
        refine (RNext_as t wr (by unfold maxLen; omega) c n hq).mono ?_
        rintro e w2 ⟨rfl, hb2⟩
        have hz2 := hb2.size
        have hown2 := own_below hown hb2
        go_wp2_with (at_builtin; refine append1 rfl (.tmp 16) (.tmp 18) 130 rfl w.heap.size 21 (.int .i32 0) 4 Try.underlying130 infoRune rfl _ _ _ (.int .i32 c) rfl hown2 (by omega) _ rfl (by simp) rfl (by omega) (by omega) ?_)
        intro g cp2 w3 hown3 hb3 hz3
        go_wp2
        go_roundw
        case rel =>
          have hx : (t.extract n t.size).data.toList = t.data.toList.drop n := Lib.extract_to_end t n
          have hxs : (t.extract n t.size).size = t.size - n := by simp
          refine ⟨t.extract n t.size, acc ++ [c], some ⟨g, 0, none⟩, cp2, rfl, ?_, by omega, ?_, ?_, ?_, ?_⟩
          · rw [List.length_append]; rfl
          · show _ = _
            rw [hesc.out, HS.out, hx]
            cases charsL (t.data.toList.drop n) <;> simp
          · rw [List.length_append, hxs]; simp; omega
          · rw [List.length_append, List.map_append]; exact hown3
          · exact (hbel.trans (hb2.mono (by omega))).trans hb3
        case measure =>
          have hxs : (t.extract n t.size).size = t.size - n := by simp
          show (t.extract n t.size).size < t.size
          omega

theorem charsF_len (f : Nat) : ∀ l cs, charsF f l = some cs → cs.length ≤ l.length := by
  induction f with
  | zero =>
    intro l cs h
    simp only [charsF] at h
    split at h
    · injection h with h; subst h; simp
    · cases h
  | succ f ih =>
    intro l cs h
    simp only [charsF] at h
    split at h
    · injection h with h; subst h; simp
    · split at h
      · cases h
      · rename_i hl hn
        cases hr : charsF f (l.drop (nextL l).2) with
        | none => rw [hr] at h; cases h
        | some ds =>
          rw [hr] at h
          injection h with h
          subst h
          have := ih _ _ hr
          have := (nextL_le l).1
          rw [List.length_drop] at *
          simp only [List.length_cons]; omega
theorem charsL_len (l : List UInt8) (cs : List Int) (h : charsL l = some cs) : cs.length ≤ l.length := charsF_len _ l cs h

end Go.Proofs.Ythifddkmbjnncaa

/-
  The walks of glyph.each without conditions, glyph.Count, ref01.Count, parse.chars, ref04.chars.
-/
namespace Go.Proofs.Ythifddkmbjnncaa
open Go.RowKit

set_option maxRecDepth 100000 in
set_option maxHeartbeats 1000000 in
theorem each_none (s : ByteArray) (w : World) (hs : s.size ≤ maxLen) :
    Calls Try.prog 44 #[.string s, .slice none 0 0] w (Ret w (.int .i64 (countL s.data.toList))) := by
  unfold maxLen at hs
  go_enter Try.func44, Try.ntmps44
  go_wp2_with fail
  go_loopw [0, 5] (fun sv mv wr => ∃ (t : ByteArray) (k : Nat), sv = .string t ∧ mv = .int .i64 k ∧ k + t.size ≤ s.size ∧ Hid (charsL s.data.toList = none ↔ charsL t.data.toList = none) ∧ Hid (∀ cs, charsL t.data.toList = some cs → countL s.data.toList = k + cs.length) ∧ Below w.heap.size w wr) (fun sv _ _ => (strOf sv).size)
  case atStart =>
    refine ⟨s, 0, rfl, rfl, by omega, Iff.rfl, ?_, Below.refl _ _⟩
    intro cs hcs
    unfold countL; rw [hcs]; simp
  case round =>
    obtain ⟨t, k, rfl, rfl, hkt, hno, hyes, hbel⟩ := hrel
    have hwr := hbel.size
    have HL := Lib.hid (size_toList t)
    by_cases he : t.toList.isEmpty = true
    · have hnil : t.data.toList = [] := by rw [ByteArray.toList_eq] at he; simpa using he
      have hv : Hid (countL s.data.toList = k) := by
        have := hyes.out [] (by rw [hnil]; rfl)
        show _ = _
        rw [this]; simp
      clear hnil
      go_wp2_with fail
      go_ret
      exact ⟨by rw [hv.out]; rfl, hbel⟩
    · have hne : t.toList.isEmpty = false := by simpa using he
      clear he
      have hnn : Hid (t.data.toList ≠ []) := by
        intro h
        rw [ByteArray.toList_eq, h] at hne
        cases hne
      obtain ⟨c, n, hq⟩ : ∃ c n, Hid (nextL t.data.toList = (c, n)) := ⟨_, _, rfl⟩
      have hle := nextL_le t.data.toList
      rw [hq.out, HL.out] at hle
      obtain ⟨hn1, hn4⟩ := hle
      simp only at hn1 hn4
      by_cases hn : n = 0
      · have hv : Hid (countL s.data.toList = -1) := by
          have := hno.out.2 (charsL_bad _ hnn.out (by rw [hq.out]; exact hn))
          show _ = _
          unfold countL; rw [this]
        have hn0 : ((n : Int) == 0) = true := by simp [hn]
        clear hn
        go_wp2_with (go_at_call 77; refine (Next_as t wr (by unfold maxLen; omega) c n hq).mono ?_; rintro e w2 ⟨rfl, hb2⟩)
        go_ret
        exact ⟨by rw [hv.out]; rfl, hbel.trans (hb2.mono (by omega))⟩
      · have hn0 : ((n : Int) == 0) = false := by simp [hn]
        have hst := charsL_step t.data.toList hnn.out (by rw [hq.out]; exact hn)
        rw [hq.out] at hst
        have HS := Lib.hid hst
        clear hst
        have hnp : 1 ≤ n := by omega
        clear hn
        go_wp2_with fail
        refine (Next_as t wr (by unfold maxLen; omega) c n hq).mono ?_
        rintro e w2 ⟨rfl, hb2⟩
        obtain ⟨wo, rfl⟩ : ∃ wo : World, wo = wr := ⟨_, rfl⟩
        go_wp2_with fail
        refine wp_loop_rounds 1 ?_
        rw [rounds_succ]
        go_wp2_with fail
        go_roundw
        case rel =>
          have hx : (t.extract n t.size).data.toList = t.data.toList.drop n := Lib.extract_to_end t n
          have hxs : (t.extract n t.size).size = t.size - n := by simp
          refine ⟨t.extract n t.size, k + 1, rfl, by go_num, by omega, ?_, ?_, hbel.trans (hb2.mono (by omega))⟩
          · show _ ↔ _
            rw [hno.out, HS.out, hx]
            cases charsL (t.data.toList.drop n) <;> simp
          · intro cs hcs
            rw [hx] at hcs
            have := hyes.out (c :: cs) (by rw [HS.out, hcs]; rfl)
            rw [this, List.length_cons]; omega
        case measure =>
          have hxs : (t.extract n t.size).size = t.size - n := by simp
          show (t.extract n t.size).size < t.size
          omega

theorem Count_any (s : ByteArray) (w : World) (hs : s.size ≤ maxLen) :
    Calls Try.prog 22 #[.string s] w (Ret w (.int .i64 (countL s.data.toList))) := by
  go_enter Try.func22, Try.ntmps22
  go_wp2_with (go_at_call 44; refine (each_none s _ hs).mono ?_; rintro e w2 ⟨rfl, hb2⟩)
  go_ret
  exact ⟨rfl, hb2⟩

theorem Count_as (s : ByteArray) (w : World) (hs : s.size ≤ maxLen) (n : Int) (h : Hid (countL s.data.toList = n)) :
    Calls Try.prog 22 #[.string s] w (Ret w (.int .i64 n)) := by
  have := Count_any s w hs
  rw [h.out] at this
  exact this


set_option maxRecDepth 100000 in
set_option maxHeartbeats 1000000 in
theorem RCount_as (s : ByteArray) (w : World) (hs : s.size ≤ 1000000000) (n : Int) (h : Hid (countL s.data.toList = n)) :
    Calls Try.prog 132 #[.string s] w (Ret w (.int .i64 n)) := by
  obtain ⟨r, hr⟩ : ∃ r, Hid (charsL s.data.toList = r) := ⟨_, rfl⟩
  have hn := h.out
  unfold countL at hn
  rw [hr.out] at hn
  subst hn
  cases r with
  | none =>
    go_enter Try.func132, Try.ntmps132
    go_wp2_with fail
    refine (RAll_any s w hs).mono ?_
    rw [hr.out]
    rintro e w2 ⟨ad, cp, rfl, hown, hb2⟩
    clear hown
    go_wp2_with fail
    go_ret
    exact ⟨rfl, hb2⟩
  | some cs =>
    go_enter Try.func132, Try.ntmps132
    go_wp2_with fail
    refine (RAll_any s w hs).mono ?_
    rw [hr.out]
    rintro e w2 ⟨ad, cp, rfl, hown, hb2⟩
    clear hown
    go_wp2_with fail
    go_ret
    exact ⟨rfl, hb2⟩

set_option maxRecDepth 100000 in
set_option maxHeartbeats 1000000 in
theorem chars_as (s : ByteArray) (w : World) (hs : s.size ≤ maxLen) (n : Int) (h : Hid (charsE s.data.toList = n)) :
    Calls Try.prog 82 #[.string s] w (Ret w (.int .i64 n)) := by
  obtain ⟨c, hc⟩ : ∃ c, Hid (countL s.data.toList = c) := ⟨_, rfl⟩
  have hn := h.out
  unfold charsE at hn
  rw [hc.out, size_toList] at hn
  by_cases h1 : c < 0
  · have hv : Hid (n = 64) := by show _ = _; rw [← hn, if_pos h1]
    clear hn
    go_enter Try.func82, Try.ntmps82
    go_wp2_with (go_at_call 22; refine (Count_as s _ hs _ hc).mono ?_; rintro e w2 ⟨rfl, hb2⟩)
    go_ret
    exact ⟨by rw [hv.out]; rfl, hb2⟩
  · rw [if_neg h1] at hn
    by_cases h2 : 1500 < s.size
    · have hv : Hid (n = 67) := by show _ = _; rw [← hn, if_pos h2]
      have h2' : (1500 : Int) < s.size := by omega
      clear hn h2
      go_enter Try.func82, Try.ntmps82
      go_wp2_with (go_at_call 22; refine (Count_as s _ hs _ hc).mono ?_; rintro e w2 ⟨rfl, hb2⟩)
      go_ret
      exact ⟨by rw [hv.out]; rfl, hb2⟩
    · have hv : Hid (n = 0) := by show _ = _; rw [← hn, if_neg h2]
      have h2' : (s.size : Int) ≤ 1500 := by omega
      clear hn h2
      go_enter Try.func82, Try.ntmps82
      go_wp2_with (go_at_call 22; refine (Count_as s _ hs _ hc).mono ?_; rintro e w2 ⟨rfl, hb2⟩)
      go_ret
      exact ⟨by rw [hv.out]; rfl, hb2⟩

set_option maxRecDepth 100000 in
set_option maxHeartbeats 1000000 in
theorem rchars_as (s : ByteArray) (w : World) (hs : s.size ≤ 1000000000) (n : Int) (h : Hid (charsE s.data.toList = n)) :
    Calls Try.prog 104 #[.string s] w (Ret w (.int .i64 n)) := by
  obtain ⟨c, hc⟩ : ∃ c, Hid (countL s.data.toList = c) := ⟨_, rfl⟩
  have hn := h.out
  unfold charsE at hn
  rw [hc.out, size_toList] at hn
  by_cases h1 : c < 0
  · have hv : Hid (n = 64) := by show _ = _; rw [← hn, if_pos h1]
    clear hn
    go_enter Try.func104, Try.ntmps104
    go_wp2_with (go_at_call 132; refine (RCount_as s _ hs _ hc).mono ?_; rintro e w2 ⟨rfl, hb2⟩)
    go_ret
    exact ⟨by rw [hv.out]; rfl, hb2⟩
  · rw [if_neg h1] at hn
    by_cases h2 : 1500 < s.size
    · have hv : Hid (n = 67) := by show _ = _; rw [← hn, if_pos h2]
      have h2' : (1500 : Int) < s.size := by omega
      clear hn h2
      go_enter Try.func104, Try.ntmps104
      go_wp2_with (go_at_call 132; refine (RCount_as s _ hs _ hc).mono ?_; rintro e w2 ⟨rfl, hb2⟩)
      go_ret
      exact ⟨by rw [hv.out]; rfl, hb2⟩
    · have hv : Hid (n = 0) := by show _ = _; rw [← hn, if_neg h2]
      have h2' : (s.size : Int) ≤ 1500 := by omega
      clear hn h2
      go_enter Try.func104, Try.ntmps104
      go_wp2_with (go_at_call 132; refine (RCount_as s _ hs _ hc).mono ?_; rintro e w2 ⟨rfl, hb2⟩)
      go_ret
      exact ⟨by rw [hv.out]; rfl, hb2⟩
end Go.Proofs.Ythifddkmbjnncaa

/-
  The walk of parse.names.
-/
namespace Go.Proofs.Ythifddkmbjnncaa
open Go.RowKit

theorem Name_l (s : List UInt8) (w : World) (hs : s.length ≤ 1000000000) (r : Bool) (hr : Hid (nameL s = r)) :
    Calls Try.prog 21 #[.string ⟨s.toArray⟩] w (Ret w (.bool r)) := Name_any _ w (by show s.toArray.size ≤ maxLen; unfold maxLen; simp; omega) r hr
theorem chars_l (s : List UInt8) (w : World) (hs : s.length ≤ 1000000000) (n : Int) (h : Hid (charsE s = n)) :
    Calls Try.prog 82 #[.string ⟨s.toArray⟩] w (Ret w (.int .i64 n)) := chars_as _ w (by show s.toArray.size ≤ maxLen; unfold maxLen; simp; omega) n h
theorem rchars_l (s : List UInt8) (w : World) (hs : s.length ≤ 1000000000) (n : Int) (h : Hid (charsE s = n)) :
    Calls Try.prog 104 #[.string ⟨s.toArray⟩] w (Ret w (.int .i64 n)) := rchars_as _ w (by show s.toArray.size ≤ _; simp; omega) n h

set_option maxRecDepth 100000 in
set_option maxHeartbeats 2000000 in
theorem names_any (x : ItemD) (A : Option Addr) (c : Nat) (w : World) (hA : AttrsAt w w.heap.size A x.attrs) (hs : SmallItem x) (V : Int) (hV : Hid (namesE x = V)) :
    Calls Try.prog 83 #[.agg (itemVal x A c)] w (Ret w (.int .i64 V)) := by
  obtain ⟨hs1, hs2, hs3, hs4, hs5⟩ := hs
  have HS4 := Lib.hid hs4
  have HA := Lib.hid hA
  clear hs4 hA hs5
  have hV' := hV.out
  unfold namesE at hV'
  clear hV
  unfold itemVal strV
  cases hn : nameL x.name with
  | false =>
    have HN : Hid (nameL x.name = false) := hn
    have hv : Hid (V = 63) := by show _ = _; rw [← hV', hn]; rfl
    clear hV' hn
    go_enter Try.func83, Try.ntmps83
    go_wp2_with fail
    refine (Name_l _ _ hs1 _ HN).mono ?_; rintro e w2 ⟨rfl, hb2⟩
    go_wp2_with fail
    go_ret
    exact ⟨by rw [hv.out]; rfl, ((Below.refl _ w).alloc (Nat.le_refl _) _).trans (hb2.mono (by simp))⟩
  | true =>
    have HN : Hid (nameL x.name = true) := hn
    rw [hn, Bool.true_and] at hV'
    clear hn
    obtain ⟨R, hR⟩ : ∃ R, Hid (attrNames [] x.attrs = R) := ⟨_, rfl⟩
    rw [hR.out] at hV'
    have HV := Lib.hid hV'
    clear hV'
    go_enter Try.func83, Try.ntmps83
    go_wp2_with fail
    obtain ⟨w1, hw1⟩ : ∃ w1, Hid (w1 = w.alloc (.cells #[.int .i64 x.level, .int .i64 x.kind, .string ⟨x.name.toArray⟩, .string ⟨x.text.toArray⟩, .slice A x.attrs.length c] 50)) := ⟨_, rfl⟩
    have hbw1 : Below w.heap.size w w1 := by rw [hw1.out]; exact (Below.refl _ w).alloc (Nat.le_refl _) _
    have hz1 : w.heap.size < w1.heap.size := by rw [hw1.out]; simp
    have hcell1 : Hid (w1.cell? ⟨w.heap.size, 4, none⟩ = some (.slice A x.attrs.length c)) := by
      show _ = _
      rw [hw1.out, World.cell?_alloc_at _ _ _ _ (by simp)]; rfl
    rw [← hw1.out]
    refine (Name_l _ _ hs1 _ HN).mono ?_; rintro e w2 ⟨rfl, hb2⟩
    have hz2 := hb2.size
    have hc4 : w2.cell? ⟨w.heap.size, 4, none⟩ = some (.slice A x.attrs.length c) := by
      rw [hb2.cell (p := ⟨w.heap.size, 4, none⟩) hz1]; exact hcell1.out
    go_wp2_with fail
    go_loopw [3, 13] (fun last i wr => ∃ (k : Nat) (l : List UInt8), k ≤ x.attrs.length ∧ i = .int .i64 k ∧ last = .string ⟨l.toArray⟩ ∧ Hid (attrNames l (x.attrs.drop k) = R) ∧ Below w2.heap.size w2 wr) (fun _ i _ => x.attrs.length - (intOf i).toNat)
    case atStart => exact ⟨0, [], Nat.zero_le _, rfl, rfl, hR, Below.refl _ _⟩
    case round =>
      obtain ⟨k, l, hk, rfl, rfl, hin, hbel⟩ := hrel
      have hzr := hbel.size
      have hbwr : Below w.heap.size w wr := (hbw1.trans (hb2.mono (by omega))).trans (hbel.mono (by omega))
      by_cases hlt : k < x.attrs.length
      · obtain ⟨a, ha⟩ : ∃ a, Hid (x.attrs[k]? = some a) := ⟨x.attrs[k], List.getElem?_eq_getElem _⟩
        obtain ⟨ad, hAd, hbl, hcs⟩ := (HA.out.below hbwr) (by omega)
        obtain ⟨hc0, hc1⟩ := hcs k a ha.out
        unfold strV at hc0 hc1
        clear hcs
        have hin' := hin.out
        rw [drop_cons ha.out, attrNames] at hin'
        have hnm := (HS4.out k a ha.out).1
        subst hAd
        have hlt' : (k : Int) < x.attrs.length := by omega
        cases hq : nameL a.name with
        | false =>
          have HQ : Hid (nameL a.name = false) := hq
          have hv : Hid (V = 63) := by
            show _ = _
            rw [hq] at hin'
            have hR' : R = false := hin'.symm
            rw [← HV.out, hR']; rfl
          clear hin' hq
          go_wp2_with fail
          refine (Name_l _ _ hnm _ HQ).mono ?_; rintro e w3 ⟨rfl, hb3⟩
          have hz3 := hb3.size
          simp only [World.size_alloc] at hz3
          go_wp2_with fail
          go_ret
          exact ⟨by rw [hv.out]; rfl, (hbwr.alloc (by omega) _).trans (hb3.mono (by simp; omega))⟩
        | true =>
          have HQ : Hid (nameL a.name = true) := hq
          rw [hq, Bool.true_and] at hin'
          clear hq
          have hcell3 : ∀ w3, Below (wr.alloc (Obj.cells #[Value.string ⟨a.name.toArray⟩, Value.string ⟨a.value.toArray⟩] 44)).heap.size (wr.alloc (Obj.cells #[Value.string ⟨a.name.toArray⟩, Value.string ⟨a.value.toArray⟩] 44)) w3 → w3.cell? ⟨wr.heap.size, 0, none⟩ = some (.string ⟨a.name.toArray⟩) := fun w3 hb3 => by
            rw [hb3.cell (p := ⟨wr.heap.size, 0, none⟩) (by simp), World.cell?_alloc_at _ _ _ _ (by simp)]; rfl
          have HC3 := Lib.hid hcell3
          clear hcell3
          obtain ⟨b1, hb1⟩ : ∃ b1, Op.bytesLess a.name l = b1 := ⟨_, rfl⟩
          obtain ⟨b2, hb2'⟩ : ∃ b2, (a.name == l) = b2 := ⟨_, rfl⟩
          have hle : leB a.name l = (b1 || b2) := by unfold leB; rw [hb1, hb2']
          rw [hle] at hin'
          clear hle
          cases hbb : (b1 || b2) with
          | true =>
            have hv : Hid (V = 63) := by
              show _ = _
              rw [hbb] at hin'
              have hR' : R = false := hin'.symm
              rw [← HV.out, hR']; rfl
            clear hin'
            go_wp2_with fail
            refine (Name_l _ _ hnm _ HQ).mono ?_; rintro e w3 ⟨rfl, hb3⟩
            have hz3 := hb3.size
            have hcell3 := HC3.out w3 hb3
            simp only [World.size_alloc] at hz3
            go_wp2_with fail
            go_ret
            exact ⟨by rw [hv.out]; rfl, (hbwr.alloc (by omega) _).trans (hb3.mono (by simp; omega))⟩
          | false =>
            rw [hbb] at hin'
            have hin2 : Hid (attrNames a.name (x.attrs.drop (k + 1)) = R) := hin'
            clear hin'
            go_wp2_with fail
            refine (Name_l _ _ hnm _ HQ).mono ?_; rintro e w3 ⟨rfl, hb3⟩
            have hz3 := hb3.size
            have hcell3 := HC3.out w3 hb3
            simp only [World.size_alloc] at hz3
            go_wp2_with fail
            go_roundw
            case rel => exact ⟨k + 1, a.name, by omega, by go_num, rfl, hin2, (hbel.alloc (by omega) _).trans (hb3.mono (by simp; omega))⟩
            case measure => simp [intOf]; omega
      · have hk' : k = x.attrs.length := by omega
        have hR' : R = true := by
          rw [← hin.out, List.drop_eq_nil_of_le (by omega)]; rfl
        have hv' := HV.out
        rw [hR'] at hv'
        subst hk'
        have hc4r : wr.cell? ⟨w.heap.size, 4, none⟩ = some (.slice A x.attrs.length c) := by
          rw [hbel.cell (p := ⟨w.heap.size, 4, none⟩) (by show w.heap.size < _; omega)]; exact hc4
        by_cases h20 : 20 < x.attrs.length
        · have hv : Hid (V = 67) := by show _ = _; rw [← hv', if_pos rfl, if_pos h20]
          have h20' : (20 : Int) < x.attrs.length := by omega
          clear hv' h20
          go_wp2_with fail
          go_ret
          exact ⟨by rw [hv.out]; rfl, hbwr⟩
        · have hv : Hid (V = 0) := by show _ = _; rw [← hv', if_pos rfl, if_neg h20]
          have h20' : (x.attrs.length : Int) ≤ 20 := by omega
          clear hv' h20
          go_wp2_with fail
          go_ret
          exact ⟨by rw [hv.out]; rfl, hbwr⟩
end Go.Proofs.Ythifddkmbjnncaa

/-
  The plain law of documents made normal: no program in sight.
-/
namespace Go.Proofs.Ythifddkmbjnncaa

def nstep (out : List ItemD) (x : ItemD) : List ItemD :=
  if x.kind = 2 ∧ x.text = [] then out
  else match out[out.length - 1]? with
    | none => out ++ [x]
    | some p => if x.kind = 2 ∧ p.kind = 2 ∧ p.level = x.level then out.set (out.length - 1) { p with text := p.text ++ x.text } else out ++ [x]
def normalL (l : List ItemD) : List ItemD := l.foldl nstep []

theorem nstep_void {out : List ItemD} {x : ItemD} (h1 : x.kind = 2) (h2 : x.text = []) : nstep out x = out := by unfold nstep; rw [if_pos ⟨h1, h2⟩]
theorem nstep_first {x : ItemD} (h : ¬ (x.kind = 2 ∧ x.text = [])) : nstep [] x = [x] := by unfold nstep; rw [if_neg h]; rfl
theorem nstep_join {out : List ItemD} {x p : ItemD} (hp : out[out.length - 1]? = some p) (h1 : x.kind = 2) (h2 : x.text ≠ []) (h3 : p.kind = 2) (h4 : p.level = x.level) : nstep out x = out.set (out.length - 1) { p with text := p.text ++ x.text } := by
  unfold nstep; rw [if_neg (fun h => h2 h.2), hp]; exact if_pos ⟨h1, h3, h4⟩
theorem nstep_more {out : List ItemD} {x p : ItemD} (hp : out[out.length - 1]? = some p) (h : ¬ (x.kind = 2 ∧ x.text = [])) (h' : ¬ (x.kind = 2 ∧ p.kind = 2 ∧ p.level = x.level)) : nstep out x = out ++ [x] := by
  unfold nstep; rw [if_neg h, hp]; exact if_neg h'

theorem nstep_app {out : List ItemD} {x : ItemD} (h : ¬ (x.kind = 2 ∧ x.text = [])) (h' : ∀ p, out[out.length - 1]? = some p → ¬ (x.kind = 2 ∧ p.kind = 2 ∧ p.level = x.level)) : nstep out x = out ++ [x] := by
  unfold nstep; rw [if_neg h]
  split
  · rfl
  · rename_i p hp
    exact if_neg (h' p hp)

/-- the bytes of all texts together -/
def textSum (l : List ItemD) : Nat := (l.map (·.text.length)).sum
theorem textSum_snoc (l : List ItemD) (x : ItemD) : textSum (l ++ [x]) = textSum l + x.text.length := by simp [textSum]
theorem textSum_take {l : List ItemD} {k : Nat} {x : ItemD} (hx : l[k]? = some x) : textSum (l.take (k + 1)) = textSum (l.take k) + x.text.length := by
  have hk : k < l.length := (List.getElem?_eq_some_iff.1 hx).1
  rw [List.take_add_one, hx]
  simp [textSum]
theorem textSum_append (l m : List ItemD) : textSum (l ++ m) = textSum l + textSum m := by simp [textSum]
theorem textSum_take_le (l : List ItemD) (k : Nat) : textSum (l.take k) ≤ textSum l := by
  have := textSum_append (l.take k) (l.drop k)
  rw [List.take_append_drop] at this
  omega

def SmallDoc (l : List ItemD) : Prop := SmallItems l ∧ textSum l ≤ 1000000000

/-- what is made normal: its items are of the row's, but for their texts -/
theorem normal_step_mem (P : ItemD → Prop) {out : List ItemD} {x : ItemD} {T : Nat} (ho : ∀ y ∈ out, P { y with text := [] } ∧ y.text.length ≤ T) (hx : P { x with text := [] }) : ∀ y ∈ nstep out x, P { y with text := [] } ∧ y.text.length ≤ T + x.text.length := by
  intro y hy
  unfold nstep at hy
  split at hy
  · have := ho y hy; exact ⟨this.1, by omega⟩
  · split at hy
    · rcases List.mem_append.1 hy with h | h
      · have := ho y h; exact ⟨this.1, by omega⟩
      · simp at h; subst h; exact ⟨hx, by omega⟩
    · rename_i p hp
      split at hy
      · rcases List.mem_or_eq_of_mem_set hy with h | h
        · have := ho y h; exact ⟨this.1, by omega⟩
        · subst h
          have := ho p (List.mem_of_getElem? hp)
          exact ⟨this.1, by simp; omega⟩
      · rcases List.mem_append.1 hy with h | h
        · have := ho y h; exact ⟨this.1, by omega⟩
        · simp at h; subst h; exact ⟨hx, by omega⟩
theorem nstep_length (out : List ItemD) (x : ItemD) : (nstep out x).length ≤ out.length + 1 := by
  unfold nstep
  split
  · omega
  · split
    · simp
    · split <;> simp
theorem normal_fold_mem (P : ItemD → Prop) : ∀ (l out : List ItemD) (T : Nat), (∀ y ∈ out, P { y with text := [] } ∧ y.text.length ≤ T) → (∀ x ∈ l, P { x with text := [] }) → (∀ y ∈ l.foldl nstep out, P { y with text := [] } ∧ y.text.length ≤ T + textSum l) ∧ (l.foldl nstep out).length ≤ out.length + l.length
  | [], out, T, ho, _ => ⟨fun y hy => by have := ho y hy; exact ⟨this.1, by omega⟩, by simp⟩
  | x :: l, out, T, ho, hl => by
    have h1 := normal_step_mem P ho (hl x (by simp))
    have h2 := normal_fold_mem P l (nstep out x) (T + x.text.length) h1 (fun y hy => hl y (by simp [hy]))
    have h3 := nstep_length out x
    refine ⟨fun y hy => ?_, ?_⟩
    · have := h2.1 y hy
      exact ⟨this.1, by simp [textSum] at *; omega⟩
    · have := h2.2
      simp only [List.foldl_cons, List.length_cons]
      omega

theorem SmallItem.untexted {x : ItemD} (h : SmallItem { x with text := [] }) (ht : x.text.length ≤ 1000000000) : SmallItem x := ⟨h.1, ht, h.2.2.1, h.2.2.2.1, h.2.2.2.2⟩
theorem small_of_mem {l : List ItemD} (h : l.length ≤ 1000000000) (hm : ∀ x ∈ l, SmallItem x) : SmallItems l := ⟨h, fun _ _ hx => hm _ (List.mem_of_getElem? hx)⟩
theorem SmallItems.mem {l : List ItemD} (h : SmallItems l) : ∀ x ∈ l, SmallItem x := fun x hx => by
  obtain ⟨k, hk⟩ := List.mem_iff_getElem?.1 hx
  exact h.2 k x hk
theorem normal_small {l : List ItemD} (h : SmallDoc l) : SmallItems (normalL l) := by
  have := normal_fold_mem SmallItem l [] 0 (fun _ h => by cases h) (fun x hx => by
    have := h.1.mem x hx
    exact ⟨this.1, by simp, this.2.2.1, this.2.2.2.1, this.2.2.2.2⟩)
  refine small_of_mem (by have h2 := this.2; have := h.1.1; simp at h2; exact Nat.le_trans h2 this) fun x hx => ?_
  have h3 := this.1 x hx
  exact h3.1.untexted (by have := h.2; omega)
end Go.Proofs.Ythifddkmbjnncaa

/-
  The plain law of documents as texts: no program in sight.
-/
namespace Go.Proofs.Ythifddkmbjnncaa

def escT (t : List UInt8) : List UInt8 := (escL false t).getD []
def escV (t : List UInt8) : List UInt8 := (escL true t).getD []
def attrT (a : AttrD) : List UInt8 := [32] ++ a.name ++ [61, 34] ++ escV a.value ++ [34]
def tagL (x : ItemD) : List UInt8 := [60] ++ x.name ++ x.attrs.flatMap attrT
def kidsOf (c : Int) (r : List ItemD) : List ItemD := r.takeWhile fun y => decide (c < y.level)
def pastOf (c : Int) (r : List ItemD) : List ItemD := r.dropWhile fun y => decide (c < y.level)
theorem kids_past (c : Int) (r : List ItemD) : kidsOf c r ++ pastOf c r = r := List.takeWhile_append_dropWhile
theorem kidsOf_le (c : Int) (r : List ItemD) : (kidsOf c r).length ≤ r.length := by
  have := congrArg List.length (kids_past c r)
  rw [List.length_append] at this; omega
theorem pastOf_le (c : Int) (r : List ItemD) : (pastOf c r).length ≤ r.length := by
  have := congrArg List.length (kids_past c r)
  rw [List.length_append] at this; omega
theorem past_drop (c : Int) (r : List ItemD) : pastOf c r = r.drop (kidsOf c r).length := by
  have h := kids_past c r
  have : (kidsOf c r ++ pastOf c r).drop (kidsOf c r).length = pastOf c r := List.drop_left
  rw [h] at this; exact this.symm
theorem kids_take (c : Int) (r : List ItemD) : kidsOf c r = r.take (kidsOf c r).length := by
  have h := kids_past c r
  have : (kidsOf c r ++ pastOf c r).take (kidsOf c r).length = kidsOf c r := List.take_left
  rw [h] at this; exact this.symm
theorem kids_mem (c : Int) : ∀ (r : List ItemD), ∀ y ∈ kidsOf c r, c < y.level
  | [], y, h => by cases h
  | x :: r, y, h => by
    unfold kidsOf at h
    rw [List.takeWhile_cons] at h
    split at h
    · rename_i hx
      rcases List.mem_cons.1 h with rfl | h
      · exact of_decide_eq_true hx
      · exact kids_mem c r y h
    · cases h
theorem past_head (c : Int) : ∀ (r : List ItemD) (y : ItemD) (s : List ItemD), pastOf c r = y :: s → y.level ≤ c
  | [], y, s, h => by cases h
  | x :: r, y, s, h => by
    unfold pastOf at h
    rw [List.dropWhile_cons] at h
    split at h
    · exact past_head c r y s h
    · rename_i hx
      injection h with h1 _
      subst h1
      have := of_decide_eq_false (by simpa using hx : decide (c < x.level) = false)
      omega
/-- what stands in front of what is no kid -/
theorem kids_app (c : Int) : ∀ (s rest : List ItemD), (∀ y r, rest = y :: r → y.level ≤ c) → kidsOf c (s ++ rest) = kidsOf c s
  | [], rest, h => by
    cases rest with
    | nil => rfl
    | cons y r =>
      have := h y r rfl
      show List.takeWhile _ (y :: r) = _
      rw [List.takeWhile_cons, if_neg (by simp; omega)]; rfl
  | x :: s, rest, h => by
    show List.takeWhile _ (x :: (s ++ rest)) = List.takeWhile _ (x :: s)
    rw [List.takeWhile_cons, List.takeWhile_cons]
    have := kids_app c s rest h
    unfold kidsOf at this
    rw [this]

/-- an item with what is in it -/
def nodeL (x : ItemD) (kids : List ItemD) (inner : List UInt8) : List UInt8 :=
  if x.kind = 2 then escT x.text else if kids = [] then tagL x ++ [47, 62] else tagL x ++ [62] ++ inner ++ ([60, 47] ++ x.name ++ [62])
/-- items side by side -/
def pr : List ItemD → List UInt8
  | [] => []
  | x :: r => nodeL x (kidsOf x.level r) (pr (kidsOf x.level r)) ++ pr (pastOf x.level r)
termination_by l => l.length
decreasing_by
  · have := kidsOf_le x.level r; simp; omega
  · have := pastOf_le x.level r; simp; omega
theorem pr_nil : pr [] = [] := by rw [pr]
theorem pr_cons (x : ItemD) (r : List ItemD) : pr (x :: r) = nodeL x (kidsOf x.level r) (pr (kidsOf x.level r)) ++ pr (pastOf x.level r) := by rw [pr]
/-- an item of a row, with what is in it -/
def nodeAt (l : List ItemD) (k : Nat) : List UInt8 := match l.drop k with
  | [] => []
  | x :: r => nodeL x (kidsOf x.level r) (pr (kidsOf x.level r))
/-- the number behind an item of a row -/
def endN (l : List ItemD) (k : Nat) : Nat := match l.drop k with
  | [] => 0
  | x :: r => k + 1 + (kidsOf x.level r).length

theorem endN_eq {l : List ItemD} {k : Nat} {x : ItemD} (hx : l[k]? = some x) : endN l k = k + 1 + (kidsOf x.level (l.drop (k + 1))).length := by
  unfold endN; rw [drop_cons hx]
theorem nodeAt_eq {l : List ItemD} {k : Nat} {x : ItemD} (hx : l[k]? = some x) : nodeAt l k = nodeL x (kidsOf x.level (l.drop (k + 1))) (pr (kidsOf x.level (l.drop (k + 1)))) := by
  unfold nodeAt; rw [drop_cons hx]
/-- what is in an item: its numbers are those from the next one on, up to its end -/
theorem kids_seg {l : List ItemD} {k : Nat} {x : ItemD} (hx : l[k]? = some x) : kidsOf x.level (l.drop (k + 1)) = (l.drop (k + 1)).take (endN l k - (k + 1)) := by
  have h := kids_take x.level (l.drop (k + 1))
  rw [endN_eq hx, show k + 1 + (kidsOf x.level (l.drop (k + 1))).length - (k + 1) = (kidsOf x.level (l.drop (k + 1))).length by omega]
  exact h
theorem endN_le {l : List ItemD} {k : Nat} {x : ItemD} (hx : l[k]? = some x) : k < endN l k ∧ endN l k ≤ l.length := by
  have h := kidsOf_le x.level (l.drop (k + 1))
  have hk : k < l.length := (List.getElem?_eq_some_iff.1 hx).1
  rw [endN_eq hx]
  rw [List.length_drop] at h
  omega
theorem seg_step {l : List ItemD} {k n : Nat} {x y : ItemD} (hx : l[k]? = some x) (hkn : k < n) (hn : n < endN l k) (hy : l[n]? = some y) :
    n < endN l n ∧ endN l n ≤ endN l k ∧ pr ((l.drop n).take (endN l k - n)) = nodeAt l n ++ pr ((l.drop (endN l n)).take (endN l k - endN l n)) := by
  obtain ⟨E, hE⟩ : ∃ E, endN l k = E := ⟨_, rfl⟩
  have hEl := (endN_le hx).2
  have hseg := kids_seg hx
  rw [hE] at hn hEl hseg ⊢
  -- what stands between, and behind
  have hyl : x.level < y.level := by
    refine kids_mem x.level (l.drop (k + 1)) y ?_
    rw [hseg]
    refine List.mem_of_getElem? (i := n - (k + 1)) ?_
    rw [List.getElem?_take, if_pos (by omega), List.getElem?_drop, show k + 1 + (n - (k + 1)) = n by omega]
    exact hy
  have hsplit : l.drop (n + 1) = (l.drop (n + 1)).take (E - (n + 1)) ++ l.drop E := by
    have := (List.take_append_drop (E - (n + 1)) (l.drop (n + 1))).symm
    rw [List.drop_drop, show n + 1 + (E - (n + 1)) = E by omega] at this
    exact this
  have hpast : pastOf x.level (l.drop (k + 1)) = l.drop E := by
    rw [past_drop, List.drop_drop]
    congr 1
    rw [← hE, endN_eq hx]
  have hrest : ∀ z r, l.drop E = z :: r → z.level ≤ y.level := fun z r h => by
    have := past_head x.level (l.drop (k + 1)) z r (by rw [hpast]; exact h)
    omega
  obtain ⟨s, hs⟩ : ∃ s, (l.drop (n + 1)).take (E - (n + 1)) = s := ⟨_, rfl⟩
  rw [hs] at hsplit
  have hkids : kidsOf y.level (l.drop (n + 1)) = kidsOf y.level s := by rw [hsplit]; exact kids_app _ _ _ hrest
  have hsl : s.length = E - (n + 1) := by rw [← hs, List.length_take, List.length_drop]; omega
  have hkl := kidsOf_le y.level s
  have hend : endN l n = n + 1 + (kidsOf y.level s).length := by rw [endN_eq hy, hkids]
  refine ⟨by omega, by omega, ?_⟩
  have hseg' : (l.drop n).take (E - n) = y :: s := by
    rw [drop_cons hy, show E - n = (E - (n + 1)) + 1 by omega, List.take_succ_cons, hs]
  rw [hseg', pr_cons, nodeAt_eq hy, hkids, past_drop, hend]
  congr 2
  rw [← hs, List.drop_take, List.drop_drop]
  congr 1
  omega

def printL (l : List ItemD) : List UInt8 × Int := if (checkL l).2 = 0 then (nodeAt (normalL l) 0, 0) else ([], (checkL l).2)
end Go.Proofs.Ythifddkmbjnncaa

/-
  The plain law of documents: what a row that was checked is; the two ways to print it come to the same. No program in sight.
-/
namespace Go.Proofs.Ythifddkmbjnncaa

/-! What was checked. -/
theorem checkF_ok : ∀ (l : List ItemD) (prev : Option ItemD) (k : Nat), (checkF prev k l).2 = 0 → ∀ (j : Nat) (x : ItemD), l[j]? = some x → oneE (if j = 0 then prev else l[j - 1]?) (k + j) x = 0
  | [], _, _, _, j, x, h => by simp at h
  | y :: r, prev, k, h, j, x, hx => by
    unfold checkF at h
    by_cases h0 : oneE prev k y = 0
    · rw [if_pos h0] at h
      cases j with
      | zero => simp at hx; subst hx; simpa using h0
      | succ j =>
        have := checkF_ok r (some y) (k + 1) h j x (by simpa using hx)
        rw [if_neg (by omega)]
        have e : (y :: r)[j + 1 - 1]? = if j = 0 then some y else r[j - 1]? := by
          cases j with
          | zero => rfl
          | succ j => simp
        rw [e, show k + (j + 1) = k + 1 + j by omega]
        exact this
    · rw [if_neg h0] at h; exact absurd h h0

structure Doc (l : List ItemD) : Prop where
  ne : l ≠ []
  one : ∀ (k : Nat) (x : ItemD), l[k]? = some x → oneE (prevOf l k) k x = 0
theorem checkL_ok {l : List ItemD} (h : (checkL l).2 = 0) : Doc l := by
  unfold checkL at h
  by_cases h0 : l = []
  · rw [if_pos h0] at h; cases h
  · rw [if_neg h0] at h
    refine ⟨h0, fun k x hx => ?_⟩
    have := checkF_ok l none 0 h k x hx
    rw [Nat.zero_add] at this
    exact this
theorem Doc.first {l : List ItemD} (h : Doc l) : ∃ x r, l = x :: r ∧ x.level = 0 ∧ x.kind = 1 := by
  cases l with
  | nil => exact absurd rfl h.ne
  | cons x r =>
    refine ⟨x, r, rfl, ?_⟩
    have h0 := (oneE_zero (h.one 0 x rfl)).1
    have : prevOf (x :: r) 0 = none := rfl
    rw [this] at h0
    unfold placeE at h0
    simp only at h0
    split at h0
    · omega
    · omega
theorem Doc.many {l : List ItemD} (h : Doc l) : l.length ≤ 1000 := by
  rcases Nat.lt_or_ge 1000 l.length with hl | hl
  · have hx : l[1000]? = some l[1000] := List.getElem?_eq_getElem hl
    have h0 := (oneE_zero (h.one 1000 _ hx)).1
    have hp : prevOf l 1000 = some (l[999]'(by omega)) := by unfold prevOf; rw [if_neg (by omega)]; exact List.getElem?_eq_getElem (by omega)
    rw [hp] at h0
    unfold placeE at h0
    simp only at h0
    split at h0
    · omega
    split at h0
    · omega
    · omega
  · exact hl

/-- how deep the next item may stand -/
def cap (x : ItemD) : Int := if x.kind = 2 then x.level else x.level + 1
def capC : Int → List ItemD → Prop
  | _, [] => True
  | c, x :: r => x.level ≤ c ∧ capC (cap x) r
theorem Doc.step {l : List ItemD} (h : Doc l) {k : Nat} {p x : ItemD} (hp : l[k]? = some p) (hx : l[k + 1]? = some x) : 1 ≤ x.level ∧ x.level ≤ cap p := by
  have h0 := (oneE_zero (h.one (k + 1) x hx)).1
  have e : prevOf l (k + 1) = some p := prevOf_succ hp
  rw [e] at h0
  unfold placeE at h0
  simp only at h0
  unfold cap
  split at h0
  · omega
  · split <;> omega
theorem capC_of {l : List ItemD} (hs : ∀ (k : Nat) (p x : ItemD), l[k]? = some p → l[k + 1]? = some x → x.level ≤ cap p) : ∀ (x : ItemD) (r : List ItemD), l = x :: r → capC x.level l := by
  have key : ∀ (r : List ItemD) (x : ItemD), (∀ (k : Nat) (p y : ItemD), (x :: r)[k]? = some p → (x :: r)[k + 1]? = some y → y.level ≤ cap p) → capC (cap x) r := by
    intro r
    induction r with
    | nil => intro x _; trivial
    | cons y r ih =>
      intro x h
      exact ⟨h 0 x y rfl rfl, ih y (fun k p z hp hz => h (k + 1) p z hp hz)⟩
  intro x r e
  subst e
  exact ⟨Int.le_refl _, key r x hs⟩
theorem Doc.cap {l : List ItemD} (h : Doc l) : capC 0 l ∧ ∀ y ∈ l, 0 ≤ y.level := by
  obtain ⟨x, r, rfl, hx0, _⟩ := h.first
  have := capC_of (fun k p y hp hy => (h.step hp hy).2) x r rfl
  rw [hx0] at this
  refine ⟨this, fun y hy => ?_⟩
  obtain ⟨k, hk⟩ := List.mem_iff_getElem?.1 hy
  exact (placeE_zero (oneE_zero (h.one k y hk)).1).1
theorem Doc.below {l : List ItemD} (h : Doc l) {x : ItemD} {r : List ItemD} (e : l = x :: r) : ∀ y ∈ r, 1 ≤ y.level := by
  subst e
  intro y hy
  obtain ⟨k, hk⟩ := List.mem_iff_getElem?.1 hy
  have h1 : (x :: r)[k + 1]? = some y := by simpa using hk
  have h2 : ∃ p, (x :: r)[k]? = some p := ⟨_, List.getElem?_eq_getElem (by have := (List.getElem?_eq_some_iff.1 h1).1; omega)⟩
  obtain ⟨p, hp⟩ := h2
  exact (h.step hp h1).1

/-! Made normal, item by item: the last one is held back. -/
def normP (p : ItemD) : List ItemD → List ItemD
  | [] => [p]
  | x :: r => if x.kind = 2 ∧ x.text = [] then normP p r
    else if x.kind = 2 ∧ p.kind = 2 ∧ p.level = x.level then normP { p with text := p.text ++ x.text } r
    else p :: normP x r
theorem fold_normP : ∀ (l out : List ItemD) (p : ItemD), l.foldl nstep (out ++ [p]) = out ++ normP p l
  | [], out, p => rfl
  | x :: l, out, p => by
    have hl : (out ++ [p])[(out ++ [p]).length - 1]? = some p := by simp
    rw [List.foldl_cons]
    by_cases h1 : x.kind = 2 ∧ x.text = []
    · rw [nstep_void h1.1 h1.2, fold_normP l out p, normP, if_pos h1]
    · by_cases h2 : x.kind = 2 ∧ p.kind = 2 ∧ p.level = x.level
      · have e : nstep (out ++ [p]) x = out ++ [{ p with text := p.text ++ x.text }] := by
          rw [nstep_join hl h2.1 (fun h => h1 ⟨h2.1, h⟩) h2.2.1 h2.2.2]
          simp
        rw [e, fold_normP l out _, normP, if_neg h1, if_pos h2]
      · rw [nstep_more hl h1 h2, fold_normP l (out ++ [p]) x, normP, if_neg h1, if_neg h2]
        simp
theorem normal_first {x : ItemD} {r : List ItemD} (h : x.kind = 1) : normalL (x :: r) = normP x r := by
  unfold normalL
  rw [List.foldl_cons, nstep_first (by rw [h]; simp)]
  exact fold_normP r [] x
theorem capC_more {c c' : Int} (h : c ≤ c') : ∀ {l : List ItemD}, capC c l → capC c' l
  | [], _ => trivial
  | _ :: _, hl => ⟨Int.le_trans hl.1 h, hl.2⟩
theorem normP_cap : ∀ (r : List ItemD) (p : ItemD) (c c' : Int), p.level ≤ c → c' ≤ cap p → capC c' r → capC c (normP p r)
  | [], p, c, c', h, _, _ => ⟨h, trivial⟩
  | x :: r, p, c, c', h, h', hr => by
    unfold normP
    split
    · rename_i h1
      refine normP_cap r p c (cap x) h ?_ hr.2
      have : cap x = x.level := by unfold cap; rw [if_pos h1.1]
      have := hr.1
      omega
    · split
      · rename_i h2
        refine normP_cap r _ c (cap x) h ?_ hr.2
        show cap x ≤ cap { p with text := _ }
        unfold cap
        rw [if_pos h2.1]
        show x.level ≤ (if p.kind = 2 then p.level else p.level + 1)
        rw [if_pos h2.2.1]; omega
      · exact ⟨h, normP_cap r x (cap p) (cap x) (by have := hr.1; omega) (Int.le_refl _) hr.2⟩
theorem normP_mem (P : Int → Prop) : ∀ (r : List ItemD) (p : ItemD), P p.level → (∀ y ∈ r, P y.level) → ∀ y ∈ normP p r, P y.level
  | [], p, hp, _, y, hy => by simp [normP] at hy; subst hy; exact hp
  | x :: r, p, hp, hr, y, hy => by
    unfold normP at hy
    split at hy
    · exact normP_mem P r p hp (fun z hz => hr z (by simp [hz])) y hy
    · split at hy
      · exact normP_mem P r { p with text := p.text ++ x.text } hp (fun z hz => hr z (by simp [hz])) y hy
      · rcases List.mem_cons.1 hy with rfl | hy
        · exact hp
        · exact normP_mem P r x (hr x (by simp)) (fun z hz => hr z (by simp [hz])) y hy
theorem normP_head : ∀ (r : List ItemD) (p : ItemD), p.kind = 1 → ∃ s, normP p r = p :: s ∧ ∀ (P : Int → Prop), (∀ y ∈ r, P y.level) → ∀ y ∈ s, P y.level
  | [], p, _ => ⟨[], rfl, fun _ _ _ h => by cases h⟩
  | x :: r, p, hp => by
    unfold normP
    split
    · obtain ⟨s, h1, h2⟩ := normP_head r p hp
      exact ⟨s, h1, fun P hP => h2 P (fun z hz => hP z (by simp [hz]))⟩
    · rw [if_neg (by rw [hp]; simp)]
      exact ⟨_, rfl, fun P hP => normP_mem P r x (hP x (by simp)) (fun z hz => hP z (by simp [hz]))⟩

/-- what a document is when it has been made normal -/
structure Shape (N : List ItemD) (x : ItemD) (s : List ItemD) : Prop where
  eq : N = x :: s
  level : x.level = 0
  kind : x.kind = 1
  cap : capC 0 N
  zero : ∀ y ∈ N, 0 ≤ y.level
  past : ∀ y ∈ s, 1 ≤ y.level
theorem Doc.normal {l : List ItemD} (h : Doc l) : ∃ x s, Shape (normalL l) x s := by
  obtain ⟨x, r, e, h0, h1⟩ := h.first
  have hc := h.cap
  have hb := h.below e
  subst e
  obtain ⟨s, e2, h2⟩ := normP_head r x h1
  refine ⟨x, s, by rw [normal_first h1]; exact e2, h0, h1, ?_, ?_, h2 (1 ≤ ·) hb⟩
  · rw [normal_first h1]
    exact normP_cap r x 0 (Go.Proofs.Ythifddkmbjnncaa.cap x) (by omega) (Int.le_refl _) hc.1.2
  · rw [normal_first h1, e2]
    intro y hy
    rcases List.mem_cons.1 hy with rfl | hy
    · omega
    · have := h2 (1 ≤ ·) hb y hy; omega

/-! The document's way to print: what is open is closed ahead of what is not in it. -/
def closeT (n : List UInt8) : List UInt8 := [60, 47] ++ n ++ [62]
def pops (L : Int) : List (List UInt8) → List UInt8 × List (List UInt8)
  | [] => ([], [])
  | n :: o => if L < (o.length + 1 : Nat) then (closeT n ++ (pops L o).1, (pops L o).2) else ([], n :: o)
def leafB (x : ItemD) : List ItemD → Bool
  | [] => true
  | y :: _ => decide (y.level ≤ x.level)
def mach : List (List UInt8) → List ItemD → List UInt8
  | o, [] => o.flatMap closeT
  | o, x :: r => (pops x.level o).1 ++ (if x.kind = 2 then escT x.text ++ mach (pops x.level o).2 r
      else if leafB x r then tagL x ++ [47, 62] ++ mach (pops x.level o).2 r else tagL x ++ [62] ++ mach (x.name :: (pops x.level o).2) r)
theorem pops_none {L : Int} {o : List (List UInt8)} (h : (o.length : Int) ≤ L) : pops L o = ([], o) := by
  cases o with
  | nil => rfl
  | cons n o => unfold pops; rw [if_neg (by simp at h ⊢; omega)]
theorem mach_pop {n : List UInt8} {o : List (List UInt8)} {s : List ItemD} (h : ∀ y t, s = y :: t → y.level ≤ o.length) : mach (n :: o) s = closeT n ++ mach o s := by
  cases s with
  | nil => rfl
  | cons y t =>
    have := h y t rfl
    unfold mach
    have e : pops y.level (n :: o) = (closeT n ++ (pops y.level o).1, (pops y.level o).2) := by
      rw [pops, if_pos (by simp; omega)]
    rw [e]
    simp
theorem mach_text {o : List (List UInt8)} {x : ItemD} {r : List ItemD} (hl : (o.length : Int) ≤ x.level) (hk : x.kind = 2) : mach o (x :: r) = escT x.text ++ mach o r := by
  rw [mach, pops_none hl, if_pos hk]; rfl
theorem mach_leaf {o : List (List UInt8)} {x : ItemD} {r : List ItemD} (hl : (o.length : Int) ≤ x.level) (hk : x.kind ≠ 2) (h : leafB x r = true) : mach o (x :: r) = tagL x ++ [47, 62] ++ mach o r := by
  rw [mach, pops_none hl, if_neg hk, if_pos h]; rfl
theorem mach_open {o : List (List UInt8)} {x : ItemD} {r : List ItemD} (hl : (o.length : Int) ≤ x.level) (hk : x.kind ≠ 2) (h : leafB x r = false) : mach o (x :: r) = tagL x ++ [62] ++ mach (x.name :: o) r := by
  rw [mach, pops_none hl, if_neg hk, if_neg (by simp [h])]; rfl

theorem capC_split : ∀ (a b : List ItemD) (c : Int), capC c (a ++ b) → capC c a ∧ ∃ c', capC c' b
  | [], b, c, h => ⟨trivial, c, h⟩
  | x :: a, b, c, h => by
    obtain ⟨h1, c', h2⟩ := capC_split a b (cap x) h.2
    exact ⟨⟨h.1, h1⟩, c', h2⟩
theorem capC_head {c c' : Int} : ∀ {l : List ItemD}, capC c l → (∀ y t, l = y :: t → y.level ≤ c') → capC c' l
  | [], _, _ => trivial
  | y :: t, h, h' => ⟨h' y t rfl, h.2⟩
theorem kids_nil {c : Int} {r : List ItemD} (h : capC c r) : kidsOf c r = [] ∧ pastOf c r = r := by
  cases r with
  | nil => exact ⟨rfl, rfl⟩
  | cons y r =>
    have := h.1
    have hd : decide (c < y.level) = false := by simp; omega
    constructor
    · show List.takeWhile _ (y :: r) = []
      rw [List.takeWhile_cons, hd]; rfl
    · show List.dropWhile _ (y :: r) = _
      rw [List.dropWhile_cons, hd]; rfl

theorem mach_seg : ∀ (n : Nat) (b : List ItemD) (o : List (List UInt8)) (rest : List ItemD), b.length ≤ n → (∀ y ∈ b, (o.length : Int) ≤ y.level) → capC o.length b → (∀ y t, rest = y :: t → y.level ≤ o.length) → mach o (b ++ rest) = pr b ++ mach o rest := by
  intro n
  induction n with
  | zero =>
    intro b o rest hb _ _ _
    have : b = [] := List.eq_nil_of_length_eq_zero (by omega)
    subst this
    rw [pr_nil]; rfl
  | succ n ih =>
    intro b o rest hb hlow hcap hrest
    cases b with
    | nil => rw [pr_nil]; rfl
    | cons x r =>
      have hx1 := hlow x (by simp)
      have hx2 := hcap.1
      have hxl : x.level = o.length := by omega
      have hr := hcap.2
      have hlr : ∀ y ∈ r, (o.length : Int) ≤ y.level := fun y hy => hlow y (by simp [hy])
      have hbl : r.length ≤ n := by simp at hb; omega
      rw [pr_cons, List.cons_append]
      by_cases hk : x.kind = 2
      · have hcx : cap x = x.level := by unfold cap; rw [if_pos hk]
        rw [hcx] at hr
        obtain ⟨k1, k2⟩ := kids_nil hr
        have hr' : capC o.length r := by rw [← hxl]; exact hr
        rw [mach_text hx1 hk, ih r o rest hbl hlr hr' hrest, k1, k2]
        have : nodeL x [] (pr []) = escT x.text := by unfold nodeL; rw [if_pos hk]
        rw [this, List.append_assoc]
      · have hcx : cap x = x.level + 1 := by unfold cap; rw [if_neg hk]
        rw [hcx] at hr
        have hsplit := kids_past x.level r
        have hpast : ∀ y t, pastOf x.level r = y :: t → y.level ≤ x.level := fun y t h => past_head x.level r y t h
        have hpr : ∀ y t, pastOf x.level r ++ rest = y :: t → y.level ≤ (o.length : Int) := by
          intro y t h
          cases hp : pastOf x.level r with
          | nil => rw [hp] at h; exact hrest y t h
          | cons z s =>
            rw [hp] at h
            injection h with h1 _
            subst h1
            have := hpast z s hp
            omega
        rw [← hsplit] at hr
        obtain ⟨hc1, c', hc2⟩ := capC_split _ _ _ hr
        have hc2' : capC o.length (pastOf x.level r) := capC_head hc2 (fun y t h => by have := hpast y t h; omega)
        have hkl := kidsOf_le x.level r
        have hpl := pastOf_le x.level r
        have hlp : ∀ y ∈ pastOf x.level r, (o.length : Int) ≤ y.level := fun y hy => hlr y (by rw [← hsplit]; simp [hy])
        by_cases hkn : kidsOf x.level r = []
        · have hleaf : leafB x (r ++ rest) = true := by
            have e : r ++ rest = pastOf x.level r ++ rest := by
              conv => lhs; rw [← hsplit]
              rw [hkn]; rfl
            rw [e]
            cases hp : pastOf x.level r ++ rest with
            | nil => rfl
            | cons y t => have := hpr y t hp; show decide _ = true; simp; omega
          have e : r = pastOf x.level r := by
            conv => lhs; rw [← hsplit]
            rw [hkn]; rfl
          rw [mach_leaf hx1 hk hleaf, hkn]
          have : nodeL x [] (pr []) = tagL x ++ [47, 62] := by unfold nodeL; rw [if_neg hk, if_pos rfl]
          rw [this]
          conv => lhs; rw [e]
          rw [ih _ o rest (by omega) hlp hc2' hrest]
          simp
        · obtain ⟨y, t, hyt⟩ := List.exists_cons_of_ne_nil hkn
          have hyl : x.level < y.level := kids_mem x.level r y (by rw [hyt]; simp)
          have hleaf : leafB x (r ++ rest) = false := by
            have e : r ++ rest = y :: (t ++ (pastOf x.level r ++ rest)) := by
              conv => lhs; rw [← hsplit]
              rw [hyt]; simp
            rw [e]
            show decide _ = false
            simp; omega
          rw [mach_open hx1 hk hleaf]
          have e : r ++ rest = kidsOf x.level r ++ (pastOf x.level r ++ rest) := by
            conv => lhs; rw [← hsplit]
            rw [List.append_assoc]
          have hcl : ((x.name :: o).length : Int) = x.level + 1 := by simp; omega
          rw [e, ih (kidsOf x.level r) (x.name :: o) (pastOf x.level r ++ rest) (by omega)
            (fun z hz => by have := kids_mem x.level r z hz; omega) (by rw [hcl]; exact hc1)
            (fun z u h => by have := hpr z u h; omega)]
          rw [mach_pop hpr, ih (pastOf x.level r) o rest (by omega) hlp hc2' hrest]
          have : nodeL x (kidsOf x.level r) (pr (kidsOf x.level r)) = tagL x ++ [62] ++ pr (kidsOf x.level r) ++ closeT x.name := by
            unfold nodeL; rw [if_neg hk, if_neg hkn]; rfl
          rw [this]
          simp

theorem all_kids (c : Int) : ∀ (s : List ItemD), (∀ y ∈ s, c < y.level) → kidsOf c s = s ∧ pastOf c s = []
  | [], _ => ⟨rfl, rfl⟩
  | y :: s, h => by
    obtain ⟨h1, h2⟩ := all_kids c s (fun z hz => h z (by simp [hz]))
    have hd : decide (c < y.level) = true := by have := h y (by simp); simpa using this
    constructor
    · show List.takeWhile _ (y :: s) = _
      rw [List.takeWhile_cons, hd]
      show y :: kidsOf c s = _
      rw [h1]
    · show List.dropWhile _ (y :: s) = _
      rw [List.dropWhile_cons, hd]
      exact h2
theorem Shape.pr {N : List ItemD} {x : ItemD} {s : List ItemD} (h : Shape N x s) : pr N = nodeAt N 0 := by
  rw [h.eq, pr_cons]
  have hk : kidsOf x.level s = s ∧ pastOf x.level s = [] := all_kids x.level s (fun y hy => by have := h.past y hy; have := h.level; omega)
  rw [hk.2, pr_nil, List.append_nil]
  rfl
theorem Shape.mach {N : List ItemD} {x : ItemD} {s : List ItemD} (h : Shape N x s) : mach [] N = nodeAt N 0 := by
  have := mach_seg N.length N [] [] (Nat.le_refl _) (fun y hy => by have := h.zero y hy; simpa using this) (by simpa using h.cap) (fun y t h => by cases h)
  rw [List.append_nil] at this
  rw [this, ← h.pr]
  show Go.Proofs.Ythifddkmbjnncaa.pr N ++ [] = _
  rw [List.append_nil]
end Go.Proofs.Ythifddkmbjnncaa

/-
  Texts of this claim, joined (by a program of the claim's author): Undo, Rd.
-/
import Derived.Test.YthifddkmbjnncaaK3
import Derived.Test.YthifddkmbjnncaaK1
import Derived.Test.YthifddkmbjnncaaK2
import Derived.Lib.BufferOwn
import Derived.Deep.RegionHeld3
import Derived.StillTailTactics
/-
  The walk of escape.Undo.
-/
namespace Go.Proofs.Ythifddkmbjnncaa
open Go.RowKit

theorem reference_as (s : ByteArray) (w : World) (hs : s.size ≤ maxLen) (c : Int) (n : Nat) (h : Hid (refL s.data.toList = (c, n))) :
    Calls Try.prog 116 #[.string s] w (Ret w (.tuple #[.int .i32 c, .int .i64 (n : Nat)])) := by
  have := reference_any s w hs
  rw [h.out] at this
  exact this

theorem stepL_lt {v : Bool} {l : List UInt8} {c : Int} {n : Nat} (h : nextL l = (c, n)) (hn : 0 < n) (hc : c = 60 ∨ c = 62) : stepL v l = .inl 20 := by
  simp only [stepL, h]; rw [if_pos ⟨hn, hc⟩]
theorem stepL_no {v : Bool} {l : List UInt8} {c : Int} {n : Nat} (h : nextL l = (c, n)) (hn : n = 0) : stepL v l = .inl 21 := by
  simp only [stepL, h]; rw [if_neg (by omega), if_pos (.inl hn)]
theorem stepL_13 {v : Bool} {l : List UInt8} {c : Int} {n : Nat} (h : nextL l = (c, n)) (hc : c = 13 ∨ (v = true ∧ (c = 34 ∨ c = 9 ∨ c = 10))) : stepL v l = .inl 21 := by
  simp only [stepL, h]; rw [if_neg (by omega), if_pos (.inr hc)]
theorem stepL_put {v : Bool} {l : List UInt8} {c : Int} {n : Nat} (h : nextL l = (c, n)) (hn : 0 < n) (h1 : ¬ (c = 60 ∨ c = 62)) (h2 : ¬ (c = 13 ∨ (v = true ∧ (c = 34 ∨ c = 9 ∨ c = 10)))) (h3 : c ≠ 38) :
    stepL v l = if charB c = false then .inl 21 else .inr (putF c, n) := by
  simp only [stepL, h]; rw [if_neg (fun h => h1 h.2), if_neg (by intro h; rcases h with h | h; omega; exact h2 h), if_neg h3, if_neg (by omega)]
theorem stepL_ref {v : Bool} {l : List UInt8} {n : Nat} (h : nextL l = (38, n)) (hn : 0 < n) {c' : Int} {n' : Nat} (hr : refL l = (c', n')) :
    stepL v l = if n' = 0 then .inl 20 else if charB c' = false then .inl 21 else .inr (putF c', n') := by
  simp only [stepL, h, hr]; rw [if_neg (by omega), if_neg (by omega)]; simp only [if_true]

theorem joinU_bad (acc : List UInt8) (k : Nat) (e : Int) (h : e ≠ 0) : joinU acc k ([], 0, e) = ([], k, e) := by simp [joinU, h]

set_option maxRecDepth 100000 in
set_option maxHeartbeats 4000000 in
theorem Undo_true (s : ByteArray) (w : World) (hs : s.size ≤ 1099511627776) (V : List UInt8 × Nat × Int) (hV : Hid (V = undoL true s.data.toList)) :
    Calls Try.prog 96 #[.string s, .bool true] w (Ret w (.tuple #[.string ⟨V.1.toArray⟩, .int .i64 (V.2.1 : Nat), .int .i64 V.2.2])) := by
  go_enter Try.func96, Try.ntmps96
  go_wp2_with fail
  go_loopw [8] (fun av wr => ∃ (k : Nat) (acc : List UInt8), av = .int .i64 k ∧ k ≤ s.size ∧ Hid (V = joinU acc k (undoL true (s.data.toList.drop k))) ∧ acc.length ≤ 4 * k ∧
      Lib.IsBuilder 80 5 w.heap.size w.heap.size (Lib.byteCells acc) wr ∧ Below w.heap.size w wr ∧ w.heap.size < wr.heap.size) (fun av _ => s.size - (intOf av).toNat)
  case atStart =>
    refine ⟨0, [], rfl, Nat.zero_le _, ?_, by simp, builder_new _ _ _, (Below.refl _ _).alloc (Nat.le_refl _) _, by simp⟩
    show _ = _
    rw [hV.out, List.drop_zero, joinU_nil _ (undoL_shape _ _)]
  case round =>
    obtain ⟨k, acc, rfl, hks, hjo, hal, hB, hbel, hlt⟩ := hrel
    have HL := Lib.hid (size_toList s)
    by_cases hend : k < s.size
    · have hx : Hid ((s.extract k s.size).data.toList = s.data.toList.drop k) := Lib.extract_to_end s k
      have hxs : (s.extract k s.size).size = s.size - k := by simp
      have hnn : Hid (s.data.toList.drop k ≠ []) := by
        intro h
        have := congrArg List.length h
        rw [List.length_drop, HL.out] at this
        simp at this; omega
      have hszl : (s.extract k s.size).size ≤ 1099511627776 := by omega
      have HXS := Lib.hid hxs
      clear hxs
      obtain ⟨c, n, hq⟩ : ∃ c n, Hid (nextL (s.extract k s.size).data.toList = (c, n)) := ⟨_, _, rfl⟩
      have hle := nextL_le (s.extract k s.size).data.toList
      rw [hq.out, hx.out, List.length_drop, HL.out] at hle
      obtain ⟨hn1, hn4⟩ := hle
      simp only at hn1 hn4
      by_cases hn : n = 0
      · have hv : Hid (V = ([], k, 21)) := by
          have := stepL_no (v := true) hq.out hn
          rw [hx.out] at this
          show _ = _
          rw [hjo.out, undoL_bad _ _ hnn.out _ this, joinU_bad _ _ _ (by decide)]
        have hn0 : ((n : Int) == 0) = true := by simp [hn]
        have hnz : n ≤ 0 := by omega
        clear hn
        go_wp2_with (go_at_call 77; refine (Next_as (s.extract k s.size) wr (by unfold maxLen; omega) c n hq).mono ?_; rintro e w2 ⟨rfl, hb2⟩)
        go_ret3
        exact ⟨by rw [hv.out]; rfl, hbel.trans (hb2.mono (by omega))⟩
      have hnp : 0 < n := by omega
      have hn0 : ((n : Int) == 0) = false := by simp [hn]
      clear hn
      by_cases hc60 : c = 60
      · subst hc60
        have hv : Hid (V = ([], k, 20)) := by
          have := stepL_lt (v := true) hq.out hnp (.inl rfl)
          rw [hx.out] at this
          show _ = _
          rw [hjo.out, undoL_bad _ _ hnn.out _ this, joinU_bad _ _ _ (by decide)]
        go_wp2_with (go_at_call 77; refine (Next_as (s.extract k s.size) wr (by unfold maxLen; omega) 60 n hq).mono ?_; rintro e w2 ⟨rfl, hb2⟩)
        go_ret3
        exact ⟨by rw [hv.out]; rfl, hbel.trans (hb2.mono (by omega))⟩
      by_cases hc62 : c = 62
      · subst hc62
        have hv : Hid (V = ([], k, 20)) := by
          have := stepL_lt (v := true) hq.out hnp (.inr rfl)
          rw [hx.out] at this
          show _ = _
          rw [hjo.out, undoL_bad _ _ hnn.out _ this, joinU_bad _ _ _ (by decide)]
        go_wp2_with (go_at_call 77; refine (Next_as (s.extract k s.size) wr (by unfold maxLen; omega) 62 n hq).mono ?_; rintro e w2 ⟨rfl, hb2⟩)
        go_ret3
        exact ⟨by rw [hv.out]; rfl, hbel.trans (hb2.mono (by omega))⟩
      by_cases hc13 : c = 13
      · subst hc13
        have hv : Hid (V = ([], k, 21)) := by
          have := stepL_13 (v := true) hq.out (.inl rfl)
          rw [hx.out] at this
          show _ = _
          rw [hjo.out, undoL_bad _ _ hnn.out _ this, joinU_bad _ _ _ (by decide)]
        go_wp2_with (go_at_call 77; refine (Next_as (s.extract k s.size) wr (by unfold maxLen; omega) 13 n hq).mono ?_; rintro e w2 ⟨rfl, hb2⟩)
        go_ret3
        exact ⟨by rw [hv.out]; rfl, hbel.trans (hb2.mono (by omega))⟩
      by_cases hc34 : c = 34
      · subst hc34
        have hv : Hid (V = ([], k, 21)) := by
          have := stepL_13 (v := true) hq.out (.inr ⟨rfl, .inl rfl⟩)
          rw [hx.out] at this
          show _ = _
          rw [hjo.out, undoL_bad _ _ hnn.out _ this, joinU_bad _ _ _ (by decide)]
        go_wp2_with (go_at_call 77; refine (Next_as (s.extract k s.size) wr (by unfold maxLen; omega) 34 n hq).mono ?_; rintro e w2 ⟨rfl, hb2⟩)
        go_ret3
        exact ⟨by rw [hv.out]; rfl, hbel.trans (hb2.mono (by omega))⟩
      by_cases hc9 : c = 9
      · subst hc9
        have hv : Hid (V = ([], k, 21)) := by
          have := stepL_13 (v := true) hq.out (.inr ⟨rfl, .inr (.inl rfl)⟩)
          rw [hx.out] at this
          show _ = _
          rw [hjo.out, undoL_bad _ _ hnn.out _ this, joinU_bad _ _ _ (by decide)]
        go_wp2_with (go_at_call 77; refine (Next_as (s.extract k s.size) wr (by unfold maxLen; omega) 9 n hq).mono ?_; rintro e w2 ⟨rfl, hb2⟩)
        go_ret3
        exact ⟨by rw [hv.out]; rfl, hbel.trans (hb2.mono (by omega))⟩
      by_cases hc10 : c = 10
      · subst hc10
        have hv : Hid (V = ([], k, 21)) := by
          have := stepL_13 (v := true) hq.out (.inr ⟨rfl, .inr (.inr rfl)⟩)
          rw [hx.out] at this
          show _ = _
          rw [hjo.out, undoL_bad _ _ hnn.out _ this, joinU_bad _ _ _ (by decide)]
        go_wp2_with (go_at_call 77; refine (Next_as (s.extract k s.size) wr (by unfold maxLen; omega) 10 n hq).mono ?_; rintro e w2 ⟨rfl, hb2⟩)
        go_ret3
        exact ⟨by rw [hv.out]; rfl, hbel.trans (hb2.mono (by omega))⟩
      by_cases hc38 : c = 38
      · subst hc38
        obtain ⟨c', n', hr⟩ : ∃ c' n', Hid (refL (s.extract k s.size).data.toList = (c', n')) := ⟨_, _, rfl⟩
        have hrl := refL_le (s.extract k s.size).data.toList
        rw [hr.out, hx.out, List.length_drop, HL.out] at hrl
        simp only at hrl
        have hstep := stepL_ref (v := true) hq.out hnp hr.out
        rw [hx.out] at hstep
        by_cases hn' : n' = 0
        · rw [if_pos hn'] at hstep
          have hv : Hid (V = ([], k, 20)) := by
            show _ = _
            rw [hjo.out, undoL_bad _ _ hnn.out _ hstep, joinU_bad _ _ _ (by decide)]
          have hn0' : ((n' : Int) == 0) = true := by simp [hn']
          clear hn' hstep
          go_wp2_with (first | (go_at_call 77; refine (Next_as (s.extract k s.size) wr (by unfold maxLen; omega) 38 n hq).mono ?_; rintro e w2 ⟨rfl, hb2⟩) | (go_at_call 116; refine (reference_as (s.extract k s.size) _ (by unfold maxLen; omega) c' n' hr).mono ?_; rintro e w3 ⟨rfl, hb3⟩) | (go_at_call 103; refine (Put_any _ _).mono ?_; rintro e w4 ⟨rfl, hb4⟩))
          go_ret3
          have hz2 := hb2.size; have hz3 := hb3.size
          exact ⟨by rw [hv.out]; rfl, ((hbel.trans (hb2.mono (by omega))).trans (hb3.mono (by omega))).trans (hb4.mono (by omega))⟩
        rw [if_neg hn'] at hstep
        have hn0' : ((n' : Int) == 0) = false := by simp [hn']
        have hnp' : 0 < n' := by omega
        clear hn'
        by_cases hch : charB c' = false
        · rw [if_pos hch] at hstep
          have hv : Hid (V = ([], k, 21)) := by
            show _ = _
            rw [hjo.out, undoL_bad _ _ hnn.out _ hstep, joinU_bad _ _ _ (by decide)]
          clear hstep
          go_wp2_with (first | (go_at_call 77; refine (Next_as (s.extract k s.size) wr (by unfold maxLen; omega) 38 n hq).mono ?_; rintro e w2 ⟨rfl, hb2⟩) | (go_at_call 116; refine (reference_as (s.extract k s.size) _ (by unfold maxLen; omega) c' n' hr).mono ?_; rintro e w3 ⟨rfl, hb3⟩) | (go_at_call 103; refine (Put_any _ _).mono ?_; rintro e w4 ⟨rfl, hb4⟩))
          go_ret3
          have hz2 := hb2.size; have hz3 := hb3.size
          exact ⟨by rw [hv.out]; rfl, ((hbel.trans (hb2.mono (by omega))).trans (hb3.mono (by omega))).trans (hb4.mono (by omega))⟩
        · rw [if_neg hch] at hstep
          have hch' : charB c' = true := by simpa using hch
          have HS := Lib.hid hstep
          have hpl := putF_len c'
          clear hstep hch
          go_wp2_with (first | (go_at_call 77; refine (Next_as (s.extract k s.size) wr (by unfold maxLen; omega) 38 n hq).mono ?_; rintro e w2 ⟨rfl, hb2⟩) | (go_at_call 116; refine (reference_as (s.extract k s.size) _ (by unfold maxLen; omega) c' n' hr).mono ?_; rintro e w3 ⟨rfl, hb3⟩) | (go_at_call 103; refine (Put_any _ _).mono ?_; rintro e w4 ⟨rfl, hb4⟩))
          have hz2 := hb2.size; have hz4 := hb4.size; have hz3 := hb3.size
          have hB4 := builder_below (builder_below (builder_below hB hb2) hb3) hb4
          go_wp2_with (go_at_call 53; refine (Try.Builder_WriteString _ _ _ _ _ hB4 ?hlen1 (by omega)).mono ?_)
          case hlen1 => rw [Lib.byteCells_length]; show acc.length + (putF c').toArray.size ≤ _; simp; omega
          rintro e w5 ⟨rfl, hB5, hb5⟩
          have hz5 := hb5.size
          go_wp2
          go_roundw
          case rel =>
            refine ⟨k + n', acc ++ putF c', by go_num, by omega, ?_, ?_, ?_, ?_, by omega⟩
            · show _ = _
              rw [hjo.out, undoL_step _ _ hnn.out _ _ HS.out, joinU_join, List.drop_drop]
            · rw [List.length_append]; omega
            · rw [Lib.byteCells_append]; exact .inr hB5
            · exact (((hbel.trans (hb2.mono (by omega))).trans (hb3.mono (by omega))).trans (hb4.mono (by omega))).trans hb5
          case measure => simp [intOf]; omega
      have hstep := stepL_put (v := true) hq.out hnp (by omega) (by simp; omega) hc38
      rw [hx.out] at hstep
      have hb60 : (c == 60) = false := by simp; omega
      have hb62 : (c == 62) = false := by simp; omega
      have hb13 : (c == 13) = false := by simp; omega
      have hb34 : (c == 34) = false := by simp; omega
      have hb9 : (c == 9) = false := by simp; omega
      have hb10 : (c == 10) = false := by simp; omega
      have hb38 : (c == 38) = false := by simp; omega
      clear hc60 hc62 hc13 hc34 hc9 hc10 hc38
      by_cases hch : charB c = false
      · rw [if_pos hch] at hstep
        have hv : Hid (V = ([], k, 21)) := by
          show _ = _
          rw [hjo.out, undoL_bad _ _ hnn.out _ hstep, joinU_bad _ _ _ (by decide)]
        clear hstep
        go_wp2_with (first | (go_at_call 77; refine (Next_as (s.extract k s.size) wr (by unfold maxLen; omega) c n hq).mono ?_; rintro e w2 ⟨rfl, hb2⟩) | (go_at_call 103; refine (Put_any _ _).mono ?_; rintro e w4 ⟨rfl, hb4⟩))
        go_ret3
        have hz2 := hb2.size
        exact ⟨by rw [hv.out]; rfl, (hbel.trans (hb2.mono (by omega))).trans (hb4.mono (by omega))⟩
      · rw [if_neg hch] at hstep
        have hch' : charB c = true := by simpa using hch
        have HS := Lib.hid hstep
        have hpl := putF_len c
        clear hstep hch
        go_wp2_with (first | (go_at_call 77; refine (Next_as (s.extract k s.size) wr (by unfold maxLen; omega) c n hq).mono ?_; rintro e w2 ⟨rfl, hb2⟩) | (go_at_call 103; refine (Put_any _ _).mono ?_; rintro e w4 ⟨rfl, hb4⟩))
        have hz2 := hb2.size; have hz4 := hb4.size; skip
        have hB4 := builder_below (builder_below hB hb2) hb4
        go_wp2_with (go_at_call 53; refine (Try.Builder_WriteString _ _ _ _ _ hB4 ?hlen2 (by omega)).mono ?_)
        case hlen2 => rw [Lib.byteCells_length]; show acc.length + (putF c).toArray.size ≤ _; simp; omega
        rintro e w5 ⟨rfl, hB5, hb5⟩
        have hz5 := hb5.size
        go_wp2
        go_roundw
        case rel =>
          refine ⟨k + n, acc ++ putF c, by go_num, by omega, ?_, ?_, ?_, ?_, by omega⟩
          · show _ = _
            rw [hjo.out, undoL_step _ _ hnn.out _ _ HS.out, joinU_join, List.drop_drop]
          · rw [List.length_append]; omega
          · rw [Lib.byteCells_append]; exact .inr hB5
          · exact ((hbel.trans (hb2.mono (by omega))).trans (hb4.mono (by omega))).trans hb5
        case measure => simp [intOf]; omega
    · have hk : k = s.size := by omega
      have hv : Hid (V = (acc, s.size, 0)) := by
        have : s.data.toList.drop k = [] := List.drop_eq_nil_of_le (by rw [HL.out]; omega)
        show _ = _
        rw [hjo.out, this, undoL_nil, hk]; simp [joinU]
      clear hk
      go_wp2_with (go_at_call 57; refine (Try.Builder_String _ _ _ _ hB (by omega)).mono ?_; rintro e w2 ⟨rfl, hb2⟩)
      go_ret3
      exact ⟨by rw [hv.out]; rfl, hbel.trans hb2⟩

set_option maxRecDepth 100000 in
set_option maxHeartbeats 4000000 in
theorem Undo_false (s : ByteArray) (w : World) (hs : s.size ≤ 1099511627776) (V : List UInt8 × Nat × Int) (hV : Hid (V = undoL false s.data.toList)) :
    Calls Try.prog 96 #[.string s, .bool false] w (Ret w (.tuple #[.string ⟨V.1.toArray⟩, .int .i64 (V.2.1 : Nat), .int .i64 V.2.2])) := by
  go_enter Try.func96, Try.ntmps96
  go_wp2_with fail
  go_loopw [8] (fun av wr => ∃ (k : Nat) (acc : List UInt8), av = .int .i64 k ∧ k ≤ s.size ∧ Hid (V = joinU acc k (undoL false (s.data.toList.drop k))) ∧ acc.length ≤ 4 * k ∧
      Lib.IsBuilder 80 5 w.heap.size w.heap.size (Lib.byteCells acc) wr ∧ Below w.heap.size w wr ∧ w.heap.size < wr.heap.size) (fun av _ => s.size - (intOf av).toNat)
  case atStart =>
    refine ⟨0, [], rfl, Nat.zero_le _, ?_, by simp, builder_new _ _ _, (Below.refl _ _).alloc (Nat.le_refl _) _, by simp⟩
    show _ = _
    rw [hV.out, List.drop_zero, joinU_nil _ (undoL_shape _ _)]
  case round =>
    obtain ⟨k, acc, rfl, hks, hjo, hal, hB, hbel, hlt⟩ := hrel
    have HL := Lib.hid (size_toList s)
    by_cases hend : k < s.size
    · have hx : Hid ((s.extract k s.size).data.toList = s.data.toList.drop k) := Lib.extract_to_end s k
      have hxs : (s.extract k s.size).size = s.size - k := by simp
      have hnn : Hid (s.data.toList.drop k ≠ []) := by
        intro h
        have := congrArg List.length h
        rw [List.length_drop, HL.out] at this
        simp at this; omega
      have hszl : (s.extract k s.size).size ≤ 1099511627776 := by omega
      have HXS := Lib.hid hxs
      clear hxs
      obtain ⟨c, n, hq⟩ : ∃ c n, Hid (nextL (s.extract k s.size).data.toList = (c, n)) := ⟨_, _, rfl⟩
      have hle := nextL_le (s.extract k s.size).data.toList
      rw [hq.out, hx.out, List.length_drop, HL.out] at hle
      obtain ⟨hn1, hn4⟩ := hle
      simp only at hn1 hn4
      by_cases hn : n = 0
      · have hv : Hid (V = ([], k, 21)) := by
          have := stepL_no (v := false) hq.out hn
          rw [hx.out] at this
          show _ = _
          rw [hjo.out, undoL_bad _ _ hnn.out _ this, joinU_bad _ _ _ (by decide)]
        have hn0 : ((n : Int) == 0) = true := by simp [hn]
        have hnz : n ≤ 0 := by omega
        clear hn
        go_wp2_with (go_at_call 77; refine (Next_as (s.extract k s.size) wr (by unfold maxLen; omega) c n hq).mono ?_; rintro e w2 ⟨rfl, hb2⟩)
        go_ret3
        exact ⟨by rw [hv.out]; rfl, hbel.trans (hb2.mono (by omega))⟩
      have hnp : 0 < n := by omega
      have hn0 : ((n : Int) == 0) = false := by simp [hn]
      clear hn
      by_cases hc60 : c = 60
      · subst hc60
        have hv : Hid (V = ([], k, 20)) := by
          have := stepL_lt (v := false) hq.out hnp (.inl rfl)
          rw [hx.out] at this
          show _ = _
          rw [hjo.out, undoL_bad _ _ hnn.out _ this, joinU_bad _ _ _ (by decide)]
        go_wp2_with (go_at_call 77; refine (Next_as (s.extract k s.size) wr (by unfold maxLen; omega) 60 n hq).mono ?_; rintro e w2 ⟨rfl, hb2⟩)
        go_ret3
        exact ⟨by rw [hv.out]; rfl, hbel.trans (hb2.mono (by omega))⟩
      by_cases hc62 : c = 62
      · subst hc62
        have hv : Hid (V = ([], k, 20)) := by
          have := stepL_lt (v := false) hq.out hnp (.inr rfl)
          rw [hx.out] at this
          show _ = _
          rw [hjo.out, undoL_bad _ _ hnn.out _ this, joinU_bad _ _ _ (by decide)]
        go_wp2_with (go_at_call 77; refine (Next_as (s.extract k s.size) wr (by unfold maxLen; omega) 62 n hq).mono ?_; rintro e w2 ⟨rfl, hb2⟩)
        go_ret3
        exact ⟨by rw [hv.out]; rfl, hbel.trans (hb2.mono (by omega))⟩
      by_cases hc13 : c = 13
      · subst hc13
        have hv : Hid (V = ([], k, 21)) := by
          have := stepL_13 (v := false) hq.out (.inl rfl)
          rw [hx.out] at this
          show _ = _
          rw [hjo.out, undoL_bad _ _ hnn.out _ this, joinU_bad _ _ _ (by decide)]
        go_wp2_with (go_at_call 77; refine (Next_as (s.extract k s.size) wr (by unfold maxLen; omega) 13 n hq).mono ?_; rintro e w2 ⟨rfl, hb2⟩)
        go_ret3
        exact ⟨by rw [hv.out]; rfl, hbel.trans (hb2.mono (by omega))⟩
      by_cases hc38 : c = 38
      · subst hc38
        obtain ⟨c', n', hr⟩ : ∃ c' n', Hid (refL (s.extract k s.size).data.toList = (c', n')) := ⟨_, _, rfl⟩
        have hrl := refL_le (s.extract k s.size).data.toList
        rw [hr.out, hx.out, List.length_drop, HL.out] at hrl
        simp only at hrl
        have hstep := stepL_ref (v := false) hq.out hnp hr.out
        rw [hx.out] at hstep
        by_cases hn' : n' = 0
        · rw [if_pos hn'] at hstep
          have hv : Hid (V = ([], k, 20)) := by
            show _ = _
            rw [hjo.out, undoL_bad _ _ hnn.out _ hstep, joinU_bad _ _ _ (by decide)]
          have hn0' : ((n' : Int) == 0) = true := by simp [hn']
          clear hn' hstep
          go_wp2_with (first | (go_at_call 77; refine (Next_as (s.extract k s.size) wr (by unfold maxLen; omega) 38 n hq).mono ?_; rintro e w2 ⟨rfl, hb2⟩) | (go_at_call 116; refine (reference_as (s.extract k s.size) _ (by unfold maxLen; omega) c' n' hr).mono ?_; rintro e w3 ⟨rfl, hb3⟩) | (go_at_call 103; refine (Put_any _ _).mono ?_; rintro e w4 ⟨rfl, hb4⟩))
          go_ret3
          have hz2 := hb2.size; have hz3 := hb3.size
          exact ⟨by rw [hv.out]; rfl, ((hbel.trans (hb2.mono (by omega))).trans (hb3.mono (by omega))).trans (hb4.mono (by omega))⟩
        rw [if_neg hn'] at hstep
        have hn0' : ((n' : Int) == 0) = false := by simp [hn']
        have hnp' : 0 < n' := by omega
        clear hn'
        by_cases hch : charB c' = false
        · rw [if_pos hch] at hstep
          have hv : Hid (V = ([], k, 21)) := by
            show _ = _
            rw [hjo.out, undoL_bad _ _ hnn.out _ hstep, joinU_bad _ _ _ (by decide)]
          clear hstep
          go_wp2_with (first | (go_at_call 77; refine (Next_as (s.extract k s.size) wr (by unfold maxLen; omega) 38 n hq).mono ?_; rintro e w2 ⟨rfl, hb2⟩) | (go_at_call 116; refine (reference_as (s.extract k s.size) _ (by unfold maxLen; omega) c' n' hr).mono ?_; rintro e w3 ⟨rfl, hb3⟩) | (go_at_call 103; refine (Put_any _ _).mono ?_; rintro e w4 ⟨rfl, hb4⟩))
          go_ret3
          have hz2 := hb2.size; have hz3 := hb3.size
          exact ⟨by rw [hv.out]; rfl, ((hbel.trans (hb2.mono (by omega))).trans (hb3.mono (by omega))).trans (hb4.mono (by omega))⟩
        · rw [if_neg hch] at hstep
          have hch' : charB c' = true := by simpa using hch
          have HS := Lib.hid hstep
          have hpl := putF_len c'
          clear hstep hch
          go_wp2_with (first | (go_at_call 77; refine (Next_as (s.extract k s.size) wr (by unfold maxLen; omega) 38 n hq).mono ?_; rintro e w2 ⟨rfl, hb2⟩) | (go_at_call 116; refine (reference_as (s.extract k s.size) _ (by unfold maxLen; omega) c' n' hr).mono ?_; rintro e w3 ⟨rfl, hb3⟩) | (go_at_call 103; refine (Put_any _ _).mono ?_; rintro e w4 ⟨rfl, hb4⟩))
          have hz2 := hb2.size; have hz4 := hb4.size; have hz3 := hb3.size
          have hB4 := builder_below (builder_below (builder_below hB hb2) hb3) hb4
          go_wp2_with (go_at_call 53; refine (Try.Builder_WriteString _ _ _ _ _ hB4 ?hlen1 (by omega)).mono ?_)
          case hlen1 => rw [Lib.byteCells_length]; show acc.length + (putF c').toArray.size ≤ _; simp; omega
          rintro e w5 ⟨rfl, hB5, hb5⟩
          have hz5 := hb5.size
          go_wp2
          go_roundw
          case rel =>
            refine ⟨k + n', acc ++ putF c', by go_num, by omega, ?_, ?_, ?_, ?_, by omega⟩
            · show _ = _
              rw [hjo.out, undoL_step _ _ hnn.out _ _ HS.out, joinU_join, List.drop_drop]
            · rw [List.length_append]; omega
            · rw [Lib.byteCells_append]; exact .inr hB5
            · exact (((hbel.trans (hb2.mono (by omega))).trans (hb3.mono (by omega))).trans (hb4.mono (by omega))).trans hb5
          case measure => simp [intOf]; omega
      have hstep := stepL_put (v := false) hq.out hnp (by omega) (by simp; omega) hc38
      rw [hx.out] at hstep
      have hb60 : (c == 60) = false := by simp; omega
      have hb62 : (c == 62) = false := by simp; omega
      have hb13 : (c == 13) = false := by simp; omega
      have hb38 : (c == 38) = false := by simp; omega
      clear hc60 hc62 hc13 hc38
      by_cases hch : charB c = false
      · rw [if_pos hch] at hstep
        have hv : Hid (V = ([], k, 21)) := by
          show _ = _
          rw [hjo.out, undoL_bad _ _ hnn.out _ hstep, joinU_bad _ _ _ (by decide)]
        clear hstep
        go_wp2_with (first | (go_at_call 77; refine (Next_as (s.extract k s.size) wr (by unfold maxLen; omega) c n hq).mono ?_; rintro e w2 ⟨rfl, hb2⟩) | (go_at_call 103; refine (Put_any _ _).mono ?_; rintro e w4 ⟨rfl, hb4⟩))
        go_ret3
        have hz2 := hb2.size
        exact ⟨by rw [hv.out]; rfl, (hbel.trans (hb2.mono (by omega))).trans (hb4.mono (by omega))⟩
      · rw [if_neg hch] at hstep
        have hch' : charB c = true := by simpa using hch
        have HS := Lib.hid hstep
        have hpl := putF_len c
        clear hstep hch
        go_wp2_with (first | (go_at_call 77; refine (Next_as (s.extract k s.size) wr (by unfold maxLen; omega) c n hq).mono ?_; rintro e w2 ⟨rfl, hb2⟩) | (go_at_call 103; refine (Put_any _ _).mono ?_; rintro e w4 ⟨rfl, hb4⟩))
        have hz2 := hb2.size; have hz4 := hb4.size; skip
        have hB4 := builder_below (builder_below hB hb2) hb4
        go_wp2_with (go_at_call 53; refine (Try.Builder_WriteString _ _ _ _ _ hB4 ?hlen2 (by omega)).mono ?_)
        case hlen2 => rw [Lib.byteCells_length]; show acc.length + (putF c).toArray.size ≤ _; simp; omega
        rintro e w5 ⟨rfl, hB5, hb5⟩
        have hz5 := hb5.size
        go_wp2
        go_roundw
        case rel =>
          refine ⟨k + n, acc ++ putF c, by go_num, by omega, ?_, ?_, ?_, ?_, by omega⟩
          · show _ = _
            rw [hjo.out, undoL_step _ _ hnn.out _ _ HS.out, joinU_join, List.drop_drop]
          · rw [List.length_append]; omega
          · rw [Lib.byteCells_append]; exact .inr hB5
          · exact ((hbel.trans (hb2.mono (by omega))).trans (hb4.mono (by omega))).trans hb5
        case measure => simp [intOf]; omega
    · have hk : k = s.size := by omega
      have hv : Hid (V = (acc, s.size, 0)) := by
        have : s.data.toList.drop k = [] := List.drop_eq_nil_of_le (by rw [HL.out]; omega)
        show _ = _
        rw [hjo.out, this, undoL_nil, hk]; simp [joinU]
      clear hk
      go_wp2_with (go_at_call 57; refine (Try.Builder_String _ _ _ _ hB (by omega)).mono ?_; rintro e w2 ⟨rfl, hb2⟩)
      go_ret3
      exact ⟨by rw [hv.out]; rfl, hbel.trans hb2⟩

theorem Undo_any (s : ByteArray) (v : Bool) (w : World) (hs : s.size ≤ 1099511627776) :
    Calls Try.prog 96 #[.string s, .bool v] w (Ret w (.tuple #[.string ⟨(undoL v s.data.toList).1.toArray⟩, .int .i64 ((undoL v s.data.toList).2.1 : Nat), .int .i64 (undoL v s.data.toList).2.2])) := by
  cases v
  · exact Undo_false s w hs _ rfl
  · exact Undo_true s w hs _ rfl
end Go.Proofs.Ythifddkmbjnncaa

/-
  The reader of tokens: its block; the walks of its small methods: fail, is, must, blanks, word, undone.
-/
namespace Go.Proofs.Ythifddkmbjnncaa
open Go.RowKit

structure Rdr where
  s : ByteArray
  pos : Nat
  kind : Int
  place : Int
  name : List UInt8
  text : List UInt8
  A : Option Addr
  n : Nat
  c : Nat
  bad : Int
  code : Int
def Rdr.cells (r : Rdr) : Array Value := #[.string r.s, .int .i64 r.pos, .int .i64 r.kind, .int .i64 r.place, .string ⟨r.name.toArray⟩, .string ⟨r.text.toArray⟩, .slice r.A r.n r.c, .int .i64 r.bad, .int .i64 r.code]
/-- a reader's block -/
def RdAt (w : World) (b : Nat) (r : Rdr) : Prop := w.heap[b]? = some (.cells r.cells 64 (0, 0))

theorem cell_of_row {w : World} {b : Nat} {cur : Array Value} {e : TypeId} (h : w.heap[b]? = some (.cells cur e (0, 0))) (j : Nat) : w.cell? ⟨b, j, none⟩ = cur[j]? := by
  simp [World.cell?, h]
theorem RdAt.all {w : World} {b : Nat} {r : Rdr} (h : RdAt w b r) :
    w.cell? ⟨b, 0, none⟩ = some (.string r.s) ∧ w.cell? ⟨b, 1, none⟩ = some (.int .i64 r.pos) ∧ w.cell? ⟨b, 2, none⟩ = some (.int .i64 r.kind) ∧ w.cell? ⟨b, 3, none⟩ = some (.int .i64 r.place) ∧ w.cell? ⟨b, 4, none⟩ = some (.string ⟨r.name.toArray⟩) ∧ w.cell? ⟨b, 5, none⟩ = some (.string ⟨r.text.toArray⟩) ∧ w.cell? ⟨b, 6, none⟩ = some (.slice r.A r.n r.c) ∧ w.cell? ⟨b, 7, none⟩ = some (.int .i64 r.bad) ∧ w.cell? ⟨b, 8, none⟩ = some (.int .i64 r.code) := by
  refine ⟨?_, ?_, ?_, ?_, ?_, ?_, ?_, ?_, ?_⟩ <;> (rw [cell_of_row h]; rfl)
theorem RdAt.froz {w : World} {b : Nat} {r : Rdr} (h : RdAt w b r) (j : Nat) : w.frozen? ⟨b, j, none⟩ = false := frozen_of_row w b j _ _ h
theorem RdAt.drew {w : World} {b : Nat} {r : Rdr} (h : RdAt w b r) : RdAt w.drew b r := h
theorem RdAt.lt {w : World} {b : Nat} {r : Rdr} (h : RdAt w b r) : b < w.heap.size := (Array.getElem?_eq_some_iff.1 h).1
theorem RdAt.grown {w w' : World} {b : Nat} {r : Rdr} (h : RdAt w b r) (hg : w.grownBy w' none) : RdAt w' b r := by
  unfold RdAt; rw [hg.block b h.lt (by simp)]; exact h
theorem RdAt.below {w w' : World} {b : Nat} {r : Rdr} (h : RdAt w b r) (hb : Below w.heap.size w w') : RdAt w' b r := h.grown (Lib.grownBy_below (World.grownBy.refl w none) hb)
section
variable {w : World} {b : Nat} {r : Rdr} (h : RdAt w b r)
include h
theorem RdAt.pos (p : Nat) : RdAt (w.setCell ⟨b, 1, none⟩ (.int .i64 p)) b { r with pos := p } := Lib.heap_setCell_same (i := 1) h _
theorem RdAt.kind (p : Int) : RdAt (w.setCell ⟨b, 2, none⟩ (.int .i64 p)) b { r with kind := p } := Lib.heap_setCell_same (i := 2) h _
theorem RdAt.name (p : List UInt8) : RdAt (w.setCell ⟨b, 4, none⟩ (.string ⟨p.toArray⟩)) b { r with name := p } := Lib.heap_setCell_same (i := 4) h _
theorem RdAt.text (p : List UInt8) : RdAt (w.setCell ⟨b, 5, none⟩ (.string ⟨p.toArray⟩)) b { r with text := p } := Lib.heap_setCell_same (i := 5) h _
theorem RdAt.attrs (A : Option Addr) (n c : Nat) : RdAt (w.setCell ⟨b, 6, none⟩ (.slice A n c)) b { r with A := A, n := n, c := c } := Lib.heap_setCell_same (i := 6) h _
theorem RdAt.bad (p : Int) : RdAt (w.setCell ⟨b, 7, none⟩ (.int .i64 p)) b { r with bad := p } := Lib.heap_setCell_same (i := 7) h _
theorem RdAt.code (p : Int) : RdAt (w.setCell ⟨b, 8, none⟩ (.int .i64 p)) b { r with code := p } := Lib.heap_setCell_same (i := 8) h _
end

/-- what a method leaves: its answer, the reader, all else as it was -/
def RdPost (w : World) (b : Nat) (r' : Rdr) (v : Value) (e : Ending) (w' : World) : Prop := e = .returned v ∧ RdAt w' b r' ∧ w.grownBy w' (some b)

set_option maxHeartbeats 1000000 in
theorem fail_any (b : Nat) (r : Rdr) (w : World) (h : RdAt w b r) (p e : Int) :
    Calls Try.prog 68 #[.pointer (some ⟨b, 0, none⟩), .int .i64 p, .int .i64 e] w (RdPost w b { r with bad := p, code := e } (.bool false)) := by
  have H := Lib.hid h
  obtain ⟨_, _, _, _, _, _, _, h7, h8⟩ := h.all
  have f7 := h.froz 7
  have f8 := h.froz 8
  clear h
  go_enter Try.func68, Try.ntmps68
  go_wp2_with fail
  go_ret
  exact ⟨rfl, (H.out.bad p).code e, Lib.grownBy_setB (Lib.grownBy_setCell w b 7 _) 8 _⟩

theorem grown_drew {w w' : World} {row : Option Nat} (h : w.grownBy w' row) : w.grownBy w'.drew row := ⟨h.os, h.tape, h.output, h.size, h.block⟩
theorem extract_from (s : ByteArray) (k : Nat) : (s.extract k s.size).data.toList = s.data.toList.drop k := Lib.extract_to_end s k


set_option maxRecDepth 100000 in
set_option maxHeartbeats 2000000 in
theorem is_any (b : Nat) (r : Rdr) (w : World) (h : RdAt w b r) (p : List UInt8) (hp : r.pos ≤ r.s.size) (hs : r.s.size ≤ 1000000000) (v : Bool) (hv : Hid (pre p (r.s.data.toList.drop r.pos) = v)) (hl : p.length ≤ 1000) :
    Calls Try.prog 41 #[.pointer (some ⟨b, 0, none⟩), .string ⟨p.toArray⟩] w (RdPost w b (if v then { r with pos := r.pos + p.length } else r) (.bool v)) := by
  have H := Lib.hid h
  have hb := h.lt
  have hc := Lib.hid h.all
  have hf := Lib.hid h.froz
  have hsz : (⟨p.toArray⟩ : ByteArray).size = p.length := by show p.toArray.size = _; simp
  have hx : Hid ((r.s.extract r.pos r.s.size).data.toList = r.s.data.toList.drop r.pos) := Lib.extract_to_end _ _
  have HS : Hid (w.drew.cell? ⟨b, 0, none⟩ = some (.string r.s) ∧ w.drew.cell? ⟨b, 1, none⟩ = some (.int .i64 r.pos)) := ⟨hc.out.1, hc.out.2.1⟩
  have i0 : (0 : Int) ≤ (r.pos : Int) := by omega
  have i1 : (r.pos : Int) ≤ r.s.size := by omega
  clear h
  cases v with
  | false =>
    go_enter Try.func41, Try.ntmps41
    go_wp2_with fail
    refine wp_region_held_drew (S := fun w' => w'.cell? ⟨b, 0, none⟩ = some (.string r.s) ∧ w'.cell? ⟨b, 1, none⟩ = some (.int .i64 r.pos)) (by kernel_rfl) HS.out (fun hHeld => ?_)
    refine tk (oi := ⟨_, _, _, _, _, _⟩) (v := ?_) 0 rfl (by kernel_rfl) (fun _ _ _ h => h) (.inl ⟨by rfl, ?_⟩) (by assumption) ?_; rotate_left
    · (intro wS hSw; (try dsimp only at hSw); go_simp); all_goals with_reducible rfl
    try go_frame
    refine tk (oi := ⟨_, _, _, _, _, _⟩) (v := ?_) 1 rfl (by kernel_rfl) (fun _ _ _ h => h) (.inl ⟨by rfl, ?_⟩) (by assumption) ?_; rotate_left
    · (intro wS hSw; (try dsimp only at hSw); go_simp); all_goals with_reducible rfl
    try go_frame
    refine tk (oi := ⟨_, _, _, _, _, _⟩) (v := ?_) 2 rfl (by kernel_rfl) (fun _ _ _ h => h) (.inl ⟨by rfl, ?_⟩) (by assumption) ?_; rotate_left
    · (intro wS hSw; (try dsimp only at hSw); go_simp); all_goals with_reducible rfl
    try go_frame
    refine tk (oi := ⟨_, _, _, _, _, _⟩) (v := ?_) 3 rfl (by kernel_rfl) (fun _ _ _ h => h) (.inl ⟨by rfl, ?_⟩) (by assumption) ?_; rotate_left
    · (intro wS hSw; (try dsimp only at hSw); go_simp); all_goals with_reducible rfl
    try go_frame
    refine tk (oi := ⟨_, _, _, _, _, _⟩) (v := ?_) 4 rfl (by kernel_rfl) (fun _ _ _ h => h) (.inl ⟨by rfl, ?_⟩) (by assumption) ?_; rotate_left
    · (intro wS hSw; (try dsimp only at hSw); go_simp); all_goals with_reducible rfl
    try go_frame
    refine tk (oi := ⟨_, _, _, _, _, _⟩) (v := ?_) 5 rfl (by kernel_rfl) (fun _ _ _ h => h) (.inl ⟨by rfl, ?_⟩) (by assumption) ?_; rotate_left
    · (intro wS hSw; (try dsimp only at hSw); go_simp); all_goals with_reducible rfl
    try go_frame
    refine tk (oi := ⟨_, _, _, _, _, _⟩) (v := ?_) 6 rfl (by kernel_rfl) (fun _ _ _ h => h) (.inl ⟨by rfl, ?_⟩) (by assumption) ?_; rotate_left
    · (intro wS hSw; (try dsimp only at hSw); go_simp); all_goals with_reducible rfl
    try go_frame
    refine tk (oi := ⟨_, _, _, _, _, _⟩) (v := ?_) 7 rfl (by kernel_rfl) (fun _ _ _ h => h) (.inl ⟨by rfl, ?_⟩) (by assumption) ?_; rotate_left
    · (intro wS hSw; (try dsimp only at hSw); go_simp); all_goals with_reducible rfl
    try go_frame
    refine tk (oi := ⟨_, _, _, _, _, _⟩) (v := ?_) 8 rfl (by kernel_rfl) (fun _ _ _ h => h) (.inl ⟨by rfl, ?_⟩) (by assumption) ?_; rotate_left
    · (intro wS hSw; (try dsimp only at hSw); go_simp); all_goals with_reducible rfl
    try go_frame
    refine tk (oi := ⟨_, _, _, _, _, _⟩) (v := ?_) 9 rfl (by kernel_rfl) (fun _ _ _ h => h) (.inl ⟨by rfl, ?_⟩) (by assumption) ?_; rotate_left
    · (intro wS hSw; (try dsimp only at hSw); go_simp); all_goals with_reducible rfl
    try go_frame
    refine wpAnyH_ready (rs := [10]) (by kernel_rfl) (by simp) ?_
    refine AllReadyH.cons (o := ⟨_, _, _, _, _, _⟩) rfl (fun K hK => ?_) AllReadyH.nil
    go_simp
    refine (hasPrefix_pre _ p _).mono ?_
    rw [hx.out, hv.out]
    rintro e w2 ⟨rfl, rfl⟩
    go_wp2_with fail
    refine hK.out _ _ (HS.out) (fun hHeld => ?_)
    clear hK K
    try go_frame
    refine tk (oi := ⟨_, _, _, _, _, _⟩) (v := ?_) 11 rfl (by kernel_rfl) (fun _ _ _ h => h) (.inl ⟨by rfl, ?_⟩) (by assumption) ?_; rotate_left
    · (intro wS hSw; (try dsimp only at hSw); go_simp); all_goals with_reducible rfl
    try go_frame
    refine wpAnyH_done (by kernel_rfl) ?_ _
    clear hHeld
    go_wp2_with fail
    go_ret
    exact ⟨rfl, H.out, grown_drew (World.grownBy.refl w _)⟩
  | true =>
    go_enter Try.func41, Try.ntmps41
    go_wp2_with fail
    refine wp_region_held_drew (S := fun w' => w'.cell? ⟨b, 0, none⟩ = some (.string r.s) ∧ w'.cell? ⟨b, 1, none⟩ = some (.int .i64 r.pos)) (by kernel_rfl) HS.out (fun hHeld => ?_)
    refine tk (oi := ⟨_, _, _, _, _, _⟩) (v := ?_) 0 rfl (by kernel_rfl) (fun _ _ _ h => h) (.inl ⟨by rfl, ?_⟩) (by assumption) ?_; rotate_left
    · (intro wS hSw; (try dsimp only at hSw); go_simp); all_goals with_reducible rfl
    try go_frame
    refine tk (oi := ⟨_, _, _, _, _, _⟩) (v := ?_) 1 rfl (by kernel_rfl) (fun _ _ _ h => h) (.inl ⟨by rfl, ?_⟩) (by assumption) ?_; rotate_left
    · (intro wS hSw; (try dsimp only at hSw); go_simp); all_goals with_reducible rfl
    try go_frame
    refine tk (oi := ⟨_, _, _, _, _, _⟩) (v := ?_) 2 rfl (by kernel_rfl) (fun _ _ _ h => h) (.inl ⟨by rfl, ?_⟩) (by assumption) ?_; rotate_left
    · (intro wS hSw; (try dsimp only at hSw); go_simp); all_goals with_reducible rfl
    try go_frame
    refine tk (oi := ⟨_, _, _, _, _, _⟩) (v := ?_) 3 rfl (by kernel_rfl) (fun _ _ _ h => h) (.inl ⟨by rfl, ?_⟩) (by assumption) ?_; rotate_left
    · (intro wS hSw; (try dsimp only at hSw); go_simp); all_goals with_reducible rfl
    try go_frame
    refine tk (oi := ⟨_, _, _, _, _, _⟩) (v := ?_) 4 rfl (by kernel_rfl) (fun _ _ _ h => h) (.inl ⟨by rfl, ?_⟩) (by assumption) ?_; rotate_left
    · (intro wS hSw; (try dsimp only at hSw); go_simp); all_goals with_reducible rfl
    try go_frame
    refine tk (oi := ⟨_, _, _, _, _, _⟩) (v := ?_) 5 rfl (by kernel_rfl) (fun _ _ _ h => h) (.inl ⟨by rfl, ?_⟩) (by assumption) ?_; rotate_left
    · (intro wS hSw; (try dsimp only at hSw); go_simp); all_goals with_reducible rfl
    try go_frame
    refine tk (oi := ⟨_, _, _, _, _, _⟩) (v := ?_) 6 rfl (by kernel_rfl) (fun _ _ _ h => h) (.inl ⟨by rfl, ?_⟩) (by assumption) ?_; rotate_left
    · (intro wS hSw; (try dsimp only at hSw); go_simp); all_goals with_reducible rfl
    try go_frame
    refine tk (oi := ⟨_, _, _, _, _, _⟩) (v := ?_) 7 rfl (by kernel_rfl) (fun _ _ _ h => h) (.inl ⟨by rfl, ?_⟩) (by assumption) ?_; rotate_left
    · (intro wS hSw; (try dsimp only at hSw); go_simp); all_goals with_reducible rfl
    try go_frame
    refine tk (oi := ⟨_, _, _, _, _, _⟩) (v := ?_) 8 rfl (by kernel_rfl) (fun _ _ _ h => h) (.inl ⟨by rfl, ?_⟩) (by assumption) ?_; rotate_left
    · (intro wS hSw; (try dsimp only at hSw); go_simp); all_goals with_reducible rfl
    try go_frame
    refine tk (oi := ⟨_, _, _, _, _, _⟩) (v := ?_) 9 rfl (by kernel_rfl) (fun _ _ _ h => h) (.inl ⟨by rfl, ?_⟩) (by assumption) ?_; rotate_left
    · (intro wS hSw; (try dsimp only at hSw); go_simp); all_goals with_reducible rfl
    try go_frame
    refine wpAnyH_ready (rs := [10]) (by kernel_rfl) (by simp) ?_
    refine AllReadyH.cons (o := ⟨_, _, _, _, _, _⟩) rfl (fun K hK => ?_) AllReadyH.nil
    go_simp
    refine (hasPrefix_pre _ p _).mono ?_
    rw [hx.out, hv.out]
    rintro e w2 ⟨rfl, rfl⟩
    go_wp2_with fail
    refine hK.out _ _ (HS.out) (fun hHeld => ?_)
    clear hK K
    try go_frame
    refine tk (oi := ⟨_, _, _, _, _, _⟩) (v := ?_) 11 rfl (by kernel_rfl) (fun _ _ _ h => h) (.inl ⟨by rfl, ?_⟩) (by assumption) ?_; rotate_left
    · (intro wS hSw; (try dsimp only at hSw); go_simp); all_goals with_reducible rfl
    try go_frame
    refine wpAnyH_done (by kernel_rfl) ?_ _
    clear hHeld
    obtain ⟨h0, h1⟩ := HS.out
    have f1 : w.drew.frozen? ⟨b, 1, none⟩ = false := H.out.drew.froz 1
    go_wp2_with fail
    go_ret
    exact ⟨rfl, H.out.drew.pos _, Lib.grownBy_setB (grown_drew (World.grownBy.refl w _)) 1 _⟩

set_option maxRecDepth 100000 in
set_option maxHeartbeats 2000000 in
theorem must_any (b : Nat) (r : Rdr) (w : World) (h : RdAt w b r) (p : List UInt8) (hp : r.pos ≤ r.s.size) (hs : r.s.size ≤ 1000000000) (v : Bool) (hv : Hid (pre p (r.s.data.toList.drop r.pos) = v)) (hl : p.length ≤ 1000) :
    Calls Try.prog 72 #[.pointer (some ⟨b, 0, none⟩), .string ⟨p.toArray⟩] w (RdPost w b (if v then { r with pos := r.pos + p.length } else { r with bad := r.pos, code := 30 }) (.bool v)) := by
  cases v with
  | false =>
    go_enter Try.func72, Try.ntmps72
    go_wp2_with fail
    refine (is_any b r w h p hp hs false hv hl).mono ?_
    rintro e w2 ⟨rfl, h2, hg2⟩
    have h2' : RdAt w2 b r := h2
    obtain ⟨_, h21, _⟩ := h2'.all
    go_wp2_with fail
    refine (fail_any b r w2 h2' r.pos 30).mono ?_
    rintro e w3 ⟨rfl, h3, hg3⟩
    go_wp2_with fail
    go_ret
    exact ⟨rfl, h3, Lib.grownBy_trans hg2 hg3⟩
  | true =>
    go_enter Try.func72, Try.ntmps72
    go_wp2_with fail
    refine (is_any b r w h p hp hs true hv hl).mono ?_
    rintro e w2 ⟨rfl, h2, hg2⟩
    go_wp2_with fail
    go_ret
    exact ⟨rfl, h2, hg2⟩

theorem Undo_at (s : ByteArray) (v : Bool) (w : World) (hs : s.size ≤ 1099511627776) (o : List UInt8) (k : Nat) (e : Int) (h : Hid (undoL v s.data.toList = (o, k, e))) :
    Calls Try.prog 96 #[.string s, .bool v] w (Ret w (.tuple #[.string ⟨o.toArray⟩, .int .i64 (k : Nat), .int .i64 e])) := by
  have := Undo_any s v w hs
  rw [h.out] at this
  exact this
theorem grown_twice {w w1 w2 : World} {b : Nat} (h1 : w.grownBy w1 (some b)) (h2 : w1.grownBy w2 (some b)) : w.grownBy w2 (some b) := Lib.grownBy_trans h1 h2

set_option maxRecDepth 100000 in
set_option maxHeartbeats 2000000 in
theorem undone_any (b : Nat) (r : Rdr) (w : World) (h : RdAt w b r) (i j : Nat) (hij : i ≤ j) (hj : j ≤ r.s.size) (hs : r.s.size ≤ 1000000000) (v : Bool) (V : List UInt8 × Nat × Int) (hV : Hid (undoL v ((r.s.data.toList.drop i).take (j - i)) = V)) :
    Calls Try.prog 67 #[.pointer (some ⟨b, 0, none⟩), .int .i64 i, .int .i64 j, .bool v] w (RdPost w b (if V.2.2 = 0 then r else { r with bad := (i : Int) + V.2.1, code := V.2.2 }) (.tuple #[.string ⟨(if V.2.2 = 0 then V.1 else []).toArray⟩, .bool (decide (V.2.2 = 0))])) := by
  have H := Lib.hid h
  obtain ⟨h0, _⟩ := h.all
  have hx : Hid ((r.s.extract i j).data.toList = (r.s.data.toList.drop i).take (j - i)) := by
    show _ = _
    rw [Lib.extract_data]
  have hxs : (r.s.extract i j).size ≤ 1099511627776 := by simp; omega
  have hle := undoL_le v ((r.s.data.toList.drop i).take (j - i))
  rw [hV.out, List.length_take, List.length_drop, size_toList] at hle
  obtain ⟨t, n, e⟩ := V
  simp only at hle
  have hV' : Hid (undoL v (r.s.extract i j).data.toList = (t, n, e)) := by show _ = _; rw [hx.out]; exact hV.out
  have i0 : (0 : Int) ≤ (i : Int) := by omega
  have i1 : (i : Int) ≤ j := by omega
  have i2 : (j : Int) ≤ r.s.size := by omega
  clear h
  by_cases he : e = 0
  · subst he
    go_enter Try.func67, Try.ntmps67
    go_wp2_with fail
    refine (Undo_at (r.s.extract i j) v w hxs t n 0 hV').mono ?_
    rintro e w2 ⟨rfl, hb2⟩
    go_wp2_with fail
    go_ret2
    exact ⟨rfl, H.out.below hb2, Lib.grownBy_below (World.grownBy.refl w _) hb2⟩
  · have he1 : (e != 0) = true := by simpa using he
    have HE := Lib.hid he
    clear he
    go_enter Try.func67, Try.ntmps67
    go_wp2_with fail
    refine (Undo_at (r.s.extract i j) v w hxs t n e hV').mono ?_
    rintro e' w2 ⟨rfl, hb2⟩
    go_wp2_with fail
    refine (fail_any b r w2 (H.out.below hb2) ((i : Int) + n) e).mono ?_
    rintro e' w3 ⟨rfl, h3, hg3⟩
    go_wp2_with fail
    go_ret2
    exact ⟨by simp, h3, grown_twice (Lib.grownBy_below (World.grownBy.refl w _) hb2) hg3⟩
end Go.Proofs.Ythifddkmbjnncaa

/-
  The walks of glyph.Name$1, glyph.each with it, glyph.Name.
-/
import Derived.Test.YthifddkmbjnncaaPart
import Derived.Test.YthifddkmbjnncaaEsc
namespace Go.Proofs.Ythifddkmbjnncaa
open Go.RowKit

theorem Part_as (c : Int) (w : World) (r : Bool) (h : Hid (partB c = r)) : Calls Try.prog 46 #[.int .i32 c] w (Ret w (.bool r)) := by
  rw [← h.out]; exact Part_any c w
theorem Start_as (c : Int) (w : World) (r : Bool) (h : Hid (startB c = r)) : Calls Try.prog 47 #[.int .i32 c] w (Ret w (.bool r)) := by
  rw [← h.out]; exact Start_any c w

set_option maxRecDepth 100000 in
set_option maxHeartbeats 1000000 in
theorem name1_any (c : Int) (first : Bool) (w : World) (r : Bool) (h : Hid ((partB c && (!first || startB c)) = r)) :
    Calls Try.prog 45 #[.int .i32 c, .bool first] w (Ret w (.bool r)) := by
  rw [← h.out]
  clear h
  obtain ⟨p, hp⟩ : ∃ p, Hid (partB c = p) := ⟨_, rfl⟩
  obtain ⟨q, hq⟩ : ∃ q, Hid (startB c = q) := ⟨_, rfl⟩
  rw [hp.out, hq.out]
  cases p <;> cases first <;> cases q
  all_goals
    go_enter Try.func45, Try.ntmps45
    go_wp2_with (first
      | (go_at_call 46; refine (Part_as c _ _ hp).mono ?_; rintro e w2 ⟨rfl, hb2⟩)
      | (go_at_call 47; refine (Start_as c _ _ hq).mono ?_; rintro e w3 ⟨rfl, hb3⟩))
    go_ret
    first
      | exact ⟨rfl, hb2⟩
      | exact ⟨rfl, hb2.trans (hb3.mono (by have := hb2.size; omega))⟩

set_option maxRecDepth 100000 in
set_option maxHeartbeats 1000000 in
theorem each_name (s : ByteArray) (b : Nat) (w : World) (hs : s.size ≤ maxLen) (hb : b < w.heap.size)
    (hc : w.cell? ⟨b, 0, none⟩ = some (.func (.func 45) #[] #[])) (V : Int) (hV : Hid (eachI 0 s.data.toList = V)) :
    Calls Try.prog 44 #[.string s, .slice (some ⟨b, 0, none⟩) 1 1] w (Ret w (.int .i64 V)) := by
  unfold maxLen at hs
  have HC := Lib.hid hc
  clear hc
  go_enter Try.func44, Try.ntmps44
  go_wp2_with fail
  go_loopw [0, 5] (fun sv mv wr => ∃ (t : ByteArray) (k : Nat), sv = .string t ∧ mv = .int .i64 k ∧ k + t.size ≤ s.size ∧ Hid (eachI k t.data.toList = V) ∧ Below w.heap.size w wr) (fun sv _ _ => (strOf sv).size)
  case atStart => exact ⟨s, 0, rfl, rfl, by omega, hV, Below.refl _ _⟩
  case round =>
    obtain ⟨t, k, rfl, rfl, hkt, hyes, hbel⟩ := hrel
    have hwr := hbel.size
    have HL := Lib.hid (size_toList t)
    by_cases he : t.toList.isEmpty = true
    · have hnil : t.data.toList = [] := by rw [ByteArray.toList_eq] at he; simpa using he
      have hv : Hid (V = k) := by
        have := hyes.out
        rw [hnil, eachI_nil] at this
        exact this.symm
      clear hnil
      go_wp2_with fail
      go_ret
      exact ⟨by rw [hv.out]; rfl, hbel⟩
    · have hne : t.toList.isEmpty = false := by simpa using he
      clear he
      have hnn : Hid (t.data.toList ≠ []) := by
        intro h
        rw [ByteArray.toList_eq, h] at hne
        cases hne
      obtain ⟨c, n, hq⟩ : ∃ c n, Hid (nextL t.data.toList = (c, n)) := ⟨_, _, rfl⟩
      have hle := nextL_le t.data.toList
      rw [hq.out, HL.out] at hle
      obtain ⟨hn1, hn4⟩ := hle
      simp only at hn1 hn4
      by_cases hn : n = 0
      · have hv : Hid (V = -1) := by
          have := eachI_bad k t.data.toList hnn.out (by rw [hq.out]; exact hn)
          exact hyes.out.symm.trans this
        have hn0 : ((n : Int) == 0) = true := by simp [hn]
        clear hn
        go_wp2_with (go_at_call 77; refine (Next_as t wr (by unfold maxLen; omega) c n hq).mono ?_; rintro e w2 ⟨rfl, hb2⟩)
        go_ret
        exact ⟨by rw [hv.out]; rfl, hbel.trans (hb2.mono (by omega))⟩
      · have hn0 : ((n : Int) == 0) = false := by simp [hn]
        have hnp : 1 ≤ n := by omega
        have HN : Hid ((nextL t.data.toList).2 ≠ 0) := by show _; rw [hq.out]; exact hn
        clear hn
        obtain ⟨f, hf⟩ : ∃ f, Hid (((k : Int) == 0) = f) := ⟨_, rfl⟩
        have hf' : Hid ((k == 0) = f) := by
          show _ = _
          rw [← hf.out, Bool.eq_iff_iff]; simp
        obtain ⟨r, hr⟩ : ∃ r, Hid ((partB c && (!f || startB c)) = r) := ⟨_, rfl⟩
        go_wp2_with fail
        refine (Next_as t wr (by unfold maxLen; omega) c n hq).mono ?_
        rintro e w2 ⟨rfl, hb2⟩
        obtain ⟨wo, rfl⟩ : ∃ wo : World, wo = wr := ⟨_, rfl⟩
        have hbel2 := hbel.trans (hb2.mono (by omega))
        have hz2 := hbel2.size
        have hcell : w2.cell? ⟨b, 0, none⟩ = some (.func (.func 45) #[] #[]) := by
          rw [hbel2.cell (p := ⟨b, 0, none⟩) hb]; exact HC.out
        have hfv := hf.out
        go_wp2_with fail
        cases r with
        | false =>
          have hv : Hid (V = -1) := by
            have := eachI_no k t.data.toList hnn.out HN.out (by rw [hq.out, hf'.out]; exact hr.out)
            exact hyes.out.symm.trans this
          refine wp_loop_rounds 1 ?_
          rw [rounds_succ]
          go_wp2_with (go_at_call 45; refine (name1_any c f _ _ hr).mono ?_; rintro e w3 ⟨rfl, hb3⟩)
          go_ret
          exact ⟨by rw [hv.out]; rfl, hbel2.trans (hb3.mono (by omega))⟩
        | true =>
          have hx : (t.extract n t.size).data.toList = t.data.toList.drop n := Lib.extract_to_end t n
          have hxs : (t.extract n t.size).size = t.size - n := by simp
          have hst : Hid (eachI (k + 1) (t.extract n t.size).data.toList = V) := by
            have := eachI_step k t.data.toList hnn.out HN.out (by rw [hq.out, hf'.out]; exact hr.out)
            rw [hq.out] at this
            show _ = _
            rw [hx, ← hyes.out, this]
          have HX := Lib.hid hxs
          clear hx hxs
          refine wp_loop_rounds 2 ?_
          rw [rounds_succ]
          go_wp2_with (go_at_call 45; refine (name1_any c f _ _ hr).mono ?_; rintro e w3 ⟨rfl, hb3⟩)
          rw [rounds_succ]
          go_wp2_with fail
          go_roundw
          case rel => exact ⟨t.extract n t.size, k + 1, rfl, by go_num, by rw [HX.out]; omega, hst, hbel2.trans (hb3.mono (by omega))⟩
          case measure =>
            show (t.extract n t.size).size < t.size
            rw [HX.out]; omega

set_option maxRecDepth 100000 in
set_option maxHeartbeats 1000000 in
theorem Name_any (s : ByteArray) (w : World) (hs : s.size ≤ maxLen) (r : Bool) (hr : Hid (nameL s.data.toList = r)) :
    Calls Try.prog 21 #[.string s] w (Ret w (.bool r)) := by
  have hr' := hr.out
  rw [nameL_each, size_toList] at hr'
  have HL := Lib.hid hr'
  clear hr hr'
  by_cases he : s.toList.isEmpty = true
  · have hnil : s.data.toList = [] := by rw [ByteArray.toList_eq] at he; simpa using he
    have hv : Hid (r = false) := by show _ = _; rw [← HL.out, hnil]; simp
    clear hnil HL
    go_enter Try.func21, Try.ntmps21
    go_wp2_with fail
    go_ret
    exact ⟨by rw [hv.out]; rfl, Below.refl _ _⟩
  · have hne : s.toList.isEmpty = false := by simpa using he
    clear he
    have hnn : Hid (s.data.toList ≠ []) := by
      intro h
      rw [ByteArray.toList_eq, h] at hne
      cases hne
    by_cases h60 : s.size ≤ 60
    · obtain ⟨V, hV⟩ : ∃ V, Hid (eachI 0 s.data.toList = V) := ⟨_, rfl⟩
      have hz : (s.size : Int) ≤ 60 := by omega
      have hv : Hid (decide (0 < V) = r) := by
        show _ = _
        rw [← HL.out, hV.out]; simp [h60, hnn.out]
      clear h60
      go_enter Try.func21, Try.ntmps21
      go_wp2_with fail
      refine (each_name s w.heap.size _ hs (by simp) (World.cell?_alloc_at _ _ _ _ (by simp)) V hV).mono ?_
      rintro e w2 ⟨rfl, hb2⟩
      go_wp2_with fail
      go_ret
      refine ⟨by rw [← hv.out]; rfl, ((Below.refl _ w).alloc (Nat.le_refl _) _).trans (hb2.mono (by simp))⟩
    · have hz : 60 < (s.size : Int) := by omega
      have hv : Hid (r = false) := by show _ = _; rw [← HL.out]; simp [h60]
      clear h60
      go_enter Try.func21, Try.ntmps21
      go_wp2_with fail
      go_ret
      exact ⟨by rw [hv.out]; rfl, Below.refl _ _⟩
end Go.Proofs.Ythifddkmbjnncaa

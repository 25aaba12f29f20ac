/-
  The walk of the document's reference.
-/
import Derived.Test.YthfdlkafpeadiaaRNum
import Derived.RegionTactic
import Derived.ChangeAlike
namespace Go.Proofs.Ythfdlkafpeadiaa
open Go.RowKit

set_option maxRecDepth 100000 in
set_option maxHeartbeats 1000000 in
theorem rrefer_0 (s : ByteArray) (w : World) (hs : s.size ≤ maxLen) (h0 : pre [38, 97, 109, 112, 59] s.data.toList = true) :
    Calls Try.prog 24 #[.string s] w (Ret w (.tuple #[.int .i64 38, .int .i64 5])) := by
  go_enter Try.func24, Try.ntmps24
  go_wp2_with fail
  refine wp_loop_rounds 6 ?_
  rw [rounds_succ]
  go_wp2_with (go_at_call 36; refine (begins_any s _ _ hs (by decide)).mono ?_; rintro e w' ⟨rfl, rfl⟩)
  go_region
  all_goals (try go_wp2_with fail)
  all_goals go_ret2
  all_goals exact ⟨rfl, (((Below.refl _ _).alloc (Nat.le_refl _) _).alloc (by simp) _).drew⟩

set_option maxRecDepth 100000 in
set_option maxHeartbeats 1000000 in
theorem rrefer_1 (s : ByteArray) (w : World) (hs : s.size ≤ maxLen) (h0 : pre [38, 97, 109, 112, 59] s.data.toList = false) (h1 : pre [38, 108, 116, 59] s.data.toList = true) :
    Calls Try.prog 24 #[.string s] w (Ret w (.tuple #[.int .i64 60, .int .i64 4])) := by
  go_enter Try.func24, Try.ntmps24
  go_wp2_with fail
  refine wp_loop_rounds 6 ?_
  rw [rounds_succ]
  go_wp2_with (go_at_call 36; refine (begins_any s _ _ hs (by decide)).mono ?_; rintro e w' ⟨rfl, rfl⟩)
  rw [rounds_succ]
  go_wp2_with (go_at_call 36; refine (begins_any s _ _ hs (by decide)).mono ?_; rintro e w' ⟨rfl, rfl⟩)
  go_region
  all_goals (try go_wp2_with fail)
  all_goals go_ret2
  all_goals exact ⟨rfl, (((Below.refl _ _).alloc (Nat.le_refl _) _).alloc (by simp) _).drew⟩

set_option maxRecDepth 100000 in
set_option maxHeartbeats 1000000 in
theorem rrefer_2 (s : ByteArray) (w : World) (hs : s.size ≤ maxLen) (h0 : pre [38, 97, 109, 112, 59] s.data.toList = false) (h1 : pre [38, 108, 116, 59] s.data.toList = false) (h2 : pre [38, 103, 116, 59] s.data.toList = true) :
    Calls Try.prog 24 #[.string s] w (Ret w (.tuple #[.int .i64 62, .int .i64 4])) := by
  go_enter Try.func24, Try.ntmps24
  go_wp2_with fail
  refine wp_loop_rounds 6 ?_
  rw [rounds_succ]
  go_wp2_with (go_at_call 36; refine (begins_any s _ _ hs (by decide)).mono ?_; rintro e w' ⟨rfl, rfl⟩)
  rw [rounds_succ]
  go_wp2_with (go_at_call 36; refine (begins_any s _ _ hs (by decide)).mono ?_; rintro e w' ⟨rfl, rfl⟩)
  rw [rounds_succ]
  go_wp2_with (go_at_call 36; refine (begins_any s _ _ hs (by decide)).mono ?_; rintro e w' ⟨rfl, rfl⟩)
  go_region
  all_goals (try go_wp2_with fail)
  all_goals go_ret2
  all_goals exact ⟨rfl, (((Below.refl _ _).alloc (Nat.le_refl _) _).alloc (by simp) _).drew⟩

set_option maxRecDepth 100000 in
set_option maxHeartbeats 1000000 in
theorem rrefer_3 (s : ByteArray) (w : World) (hs : s.size ≤ maxLen) (h0 : pre [38, 97, 109, 112, 59] s.data.toList = false) (h1 : pre [38, 108, 116, 59] s.data.toList = false) (h2 : pre [38, 103, 116, 59] s.data.toList = false) (h3 : pre [38, 113, 117, 111, 116, 59] s.data.toList = true) :
    Calls Try.prog 24 #[.string s] w (Ret w (.tuple #[.int .i64 34, .int .i64 6])) := by
  go_enter Try.func24, Try.ntmps24
  go_wp2_with fail
  refine wp_loop_rounds 6 ?_
  rw [rounds_succ]
  go_wp2_with (go_at_call 36; refine (begins_any s _ _ hs (by decide)).mono ?_; rintro e w' ⟨rfl, rfl⟩)
  rw [rounds_succ]
  go_wp2_with (go_at_call 36; refine (begins_any s _ _ hs (by decide)).mono ?_; rintro e w' ⟨rfl, rfl⟩)
  rw [rounds_succ]
  go_wp2_with (go_at_call 36; refine (begins_any s _ _ hs (by decide)).mono ?_; rintro e w' ⟨rfl, rfl⟩)
  rw [rounds_succ]
  go_wp2_with (go_at_call 36; refine (begins_any s _ _ hs (by decide)).mono ?_; rintro e w' ⟨rfl, rfl⟩)
  go_region
  all_goals (try go_wp2_with fail)
  all_goals go_ret2
  all_goals exact ⟨rfl, (((Below.refl _ _).alloc (Nat.le_refl _) _).alloc (by simp) _).drew⟩

set_option maxRecDepth 100000 in
set_option maxHeartbeats 1000000 in
theorem rrefer_4 (s : ByteArray) (w : World) (hs : s.size ≤ maxLen) (h0 : pre [38, 97, 109, 112, 59] s.data.toList = false) (h1 : pre [38, 108, 116, 59] s.data.toList = false) (h2 : pre [38, 103, 116, 59] s.data.toList = false) (h3 : pre [38, 113, 117, 111, 116, 59] s.data.toList = false) (h4 : pre [38, 97, 112, 111, 115, 59] s.data.toList = true) :
    Calls Try.prog 24 #[.string s] w (Ret w (.tuple #[.int .i64 39, .int .i64 6])) := by
  go_enter Try.func24, Try.ntmps24
  go_wp2_with fail
  refine wp_loop_rounds 6 ?_
  rw [rounds_succ]
  go_wp2_with (go_at_call 36; refine (begins_any s _ _ hs (by decide)).mono ?_; rintro e w' ⟨rfl, rfl⟩)
  rw [rounds_succ]
  go_wp2_with (go_at_call 36; refine (begins_any s _ _ hs (by decide)).mono ?_; rintro e w' ⟨rfl, rfl⟩)
  rw [rounds_succ]
  go_wp2_with (go_at_call 36; refine (begins_any s _ _ hs (by decide)).mono ?_; rintro e w' ⟨rfl, rfl⟩)
  rw [rounds_succ]
  go_wp2_with (go_at_call 36; refine (begins_any s _ _ hs (by decide)).mono ?_; rintro e w' ⟨rfl, rfl⟩)
  rw [rounds_succ]
  go_wp2_with (go_at_call 36; refine (begins_any s _ _ hs (by decide)).mono ?_; rintro e w' ⟨rfl, rfl⟩)
  go_region
  all_goals (try go_wp2_with fail)
  all_goals go_ret2
  all_goals exact ⟨rfl, (((Below.refl _ _).alloc (Nat.le_refl _) _).alloc (by simp) _).drew⟩

set_option maxRecDepth 100000 in
set_option maxHeartbeats 4000000 in
theorem rrefer_num (s : ByteArray) (w : World) (hs : s.size ≤ maxLen) (h0 : pre [38, 97, 109, 112, 59] s.data.toList = false) (h1 : pre [38, 108, 116, 59] s.data.toList = false) (h2 : pre [38, 103, 116, 59] s.data.toList = false) (h3 : pre [38, 113, 117, 111, 116, 59] s.data.toList = false) (h4 : pre [38, 97, 112, 111, 115, 59] s.data.toList = false) (V : Int × Nat) (b5 b6 : Bool) (h5 : pre [38, 35] s.data.toList = b5) (h6 : pre [38, 35, 120] s.data.toList = b6)
    (hV : Hid (V = if endR s.data.toList = s.data.toList.length ∨ endR s.data.toList = 12 ∨ b5 = false then (0, 0) else
      if (if b6 = true then numR 16 ((s.data.toList.take (endR s.data.toList)).drop 3) else numR 10 ((s.data.toList.take (endR s.data.toList)).drop 2)) < 0 then (0, 0)
      else ((if b6 = true then numR 16 ((s.data.toList.take (endR s.data.toList)).drop 3) else numR 10 ((s.data.toList.take (endR s.data.toList)).drop 2)), endR s.data.toList + 1))) :
    Calls Try.prog 24 #[.string s] w (Ret w (.tuple #[.int .i64 V.1, .int .i64 (V.2 : Nat)])) := by
  have hs' := hs
  unfold maxLen at hs'
  have HL := Lib.hid (size_toList s)
  have hp2 : Hid (b5 = true → s.data.toList.take 2 = [38, 35]) := fun h => by rw [h] at h5; exact eq_of_beq h5
  have hp3 : Hid (b6 = true → s.data.toList.take 3 = [38, 35, 120]) := fun h => by rw [h] at h6; exact eq_of_beq h6
  go_enter Try.func24, Try.ntmps24
  go_wp2_with fail
  refine wp_loop_rounds 6 ?_
  rw [rounds_succ]
  go_wp2_with (go_at_call 36; refine (begins_any s _ _ hs (by decide)).mono ?_; rintro e w' ⟨rfl, rfl⟩)
  rw [rounds_succ]
  go_wp2_with (go_at_call 36; refine (begins_any s _ _ hs (by decide)).mono ?_; rintro e w' ⟨rfl, rfl⟩)
  rw [rounds_succ]
  go_wp2_with (go_at_call 36; refine (begins_any s _ _ hs (by decide)).mono ?_; rintro e w' ⟨rfl, rfl⟩)
  rw [rounds_succ]
  go_wp2_with (go_at_call 36; refine (begins_any s _ _ hs (by decide)).mono ?_; rintro e w' ⟨rfl, rfl⟩)
  rw [rounds_succ]
  go_wp2_with (go_at_call 36; refine (begins_any s _ _ hs (by decide)).mono ?_; rintro e w' ⟨rfl, rfl⟩)
  rw [rounds_succ]
  go_wp2_with (go_at_call 36; refine (begins_any s _ _ hs (by decide)).mono ?_; rintro e w' ⟨rfl, rfl⟩)
  go_loop [7] (fun i => ∃ k : Nat, k ≤ s.size ∧ k ≤ 12 ∧ i = .int .i64 k ∧ Hid ((s.data.toList.take k).takeWhile no59 = s.data.toList.take k)) (fun i => s.size - (intOf i).toNat)
  case atStart => exact ⟨0, Nat.zero_le _, Nat.zero_le _, rfl, rfl⟩
  case round =>
    obtain ⟨k, hk, hk12, rfl, htw⟩ := hrel
    have hend0 : Hid (∀ rest : List UInt8, (rest.takeWhile no59 = []) → s.data.toList.take 12 = s.data.toList.take k ++ rest → endR s.data.toList = k) := by
      intro rest hr he
      unfold endR
      rw [he, List.takeWhile_append, if_pos (by rw [htw.out]), hr, List.append_nil, List.length_take]
      have := HL.out; omega
    by_cases hA : s.size ≤ k
    · have he : Hid (endR s.data.toList = k) := by
        refine hend0.out [] rfl ?_
        have := HL.out
        rw [List.append_nil, List.take_of_length_le (by omega), List.take_of_length_le (by omega)]
      have hv : Hid (V = (0, 0)) := by
        show _ = _
        rw [hV.out, if_pos (.inl (by rw [he.out, HL.out]; omega))]
      have hke : k = s.size := by omega
      have h1 : ((k : Int) == (s.size : Int)) = true := by rw [hke]; simp
      have h1' : (k == s.size) = true := by rw [hke]; simp
      clear hke
      go_wp2_with fail
      go_ret2
      exact ⟨by rw [hv.out]; rfl, ((Below.refl _ _).alloc (Nat.le_refl _) _).alloc (by simp) _⟩
    by_cases hB : 12 ≤ k
    · have he : Hid (endR s.data.toList = k) := by
        refine hend0.out [] rfl ?_
        rw [List.append_nil]; congr 1; omega
      have hv : Hid (V = (0, 0)) := by
        show _ = _
        rw [hV.out, if_pos (.inr (.inl (by rw [he.out]; omega)))]
      have h0 : ((k : Int) == (s.size : Int)) = false := by simp; omega
      have h0' : (k == s.size) = false := by simp; omega
      have hk12' : ((k : Int) == 12) = true := by simp; omega
      have hks : k < s.size := by omega
      clear hA
      go_wp2_with fail
      go_ret2
      exact ⟨by rw [hv.out]; rfl, ((Below.refl _ _).alloc (Nat.le_refl _) _).alloc (by simp) _⟩
    have hks : k < s.size := by omega
    have hkl : k < 12 := by omega
    have h0 : ((k : Int) == (s.size : Int)) = false := by simp; omega
    have h0' : (k == s.size) = false := by simp; omega
    have hk12' : ((k : Int) == 12) = false := by simp; omega
    obtain ⟨x, HX⟩ : ∃ x, Hid (s.data.toList[k]? = some x) := ⟨s.data.toList[k]'(by have := HL.out; omega), List.getElem?_eq_getElem _⟩
    have hsx : s[k] = x := getk_of s k x HX.out hks
    have hdr : Hid (s.data.toList.drop k = x :: s.data.toList.drop (k + 1)) := by
      have hj' : k < s.data.toList.length := by have := HL.out; omega
      have hg := HX.out
      rw [List.getElem?_eq_getElem hj'] at hg
      show _ = _
      rw [List.drop_eq_getElem_cons hj', Option.some.inj hg]
    clear hA hB
    by_cases h59 : x = 59
    · have he : Hid (endR s.data.toList = k) := by
        refine hend0.out ((s.data.toList.drop k).take (12 - k)) ?_ ?_
        · rw [hdr.out, h59]
          obtain ⟨m, hm⟩ : ∃ m, 12 - k = m + 1 := ⟨11 - k, by omega⟩
          rw [hm, List.take_succ_cons]
          simp [List.takeWhile, no59]
        · have : (12 : Nat) = k + (12 - k) := by omega
          conv => lhs; rw [this]
          rw [List.take_add]
      have hx59 : ((x.toNat : Int) != 59) = false := by rw [h59]; rfl
      have hx59' : ((x.toNat : Int) == 59) = true := by rw [h59]; rfl
      have h59' : Hid (s.data.toList[k]? = some 59) := by have := HX.out; rw [h59] at this; exact this
      clear h59
      cases hb5 : b5
      · subst hb5
        have hv : Hid (V = (0, 0)) := by
          show _ = _
          rw [hV.out, if_pos (.inr (.inr rfl))]
        go_wp2_with (go_at_call 36; refine (begins_any s _ _ hs (by decide)).mono ?_; rintro e w' ⟨rfl, rfl⟩)
        go_ret2
        exact ⟨by rw [hv.out]; rfl, ((Below.refl _ _).alloc (Nat.le_refl _) _).alloc (by simp) _⟩
      · subst hb5
        have hk2 : 2 ≤ k := by
          have h2 := hp2.out rfl
          have h59 := h59'.out
          rcases (by omega : k = 0 ∨ k = 1 ∨ 2 ≤ k) with rfl | rfl | h
          · have : (s.data.toList.take 2)[0]? = some 59 := by rw [List.getElem?_take]; simpa using h59
            rw [h2] at this; simp at this
          · have : (s.data.toList.take 2)[1]? = some 59 := by rw [List.getElem?_take]; simpa using h59
            rw [h2] at this; simp at this
          · exact h
        have hx2 : Hid ((s.extract 2 k).data.toList = (s.data.toList.take k).drop 2) := by
          show _ = _; rw [Lib.extract_data, List.drop_take]
        have hxz2 : (s.extract 2 k).size ≤ 12 := by simp; omega
        obtain ⟨n1, hn1⟩ : ∃ n, Hid (n = numR 10 (s.extract 2 k).data.toList) := ⟨_, rfl⟩
        cases hb6 : b6
        · subst hb6
          have hv0 : Hid (V = if n1 < 0 then (0, 0) else (n1, k + 1)) := by
            show _ = _
            rw [hV.out, if_neg (by rw [he.out, HL.out]; simp; omega), he.out, hn1.out, hx2.out]; rfl
          by_cases hneg : n1 < 0
          · have hv : Hid (V = (0, 0)) := by show _ = _; rw [hv0.out, if_pos hneg]
            go_wp2_with (first | (go_at_call 36; refine (begins_any s _ _ hs (by decide)).mono ?_; rintro e w' ⟨rfl, rfl⟩) | (go_at_call 37; refine (number_10 _ _ hxz2 n1 hn1).mono ?_; rintro e w' ⟨rfl, rfl⟩))
            go_ret2
            exact ⟨by rw [hv.out]; rfl, ((Below.refl _ _).alloc (Nat.le_refl _) _).alloc (by simp) _⟩
          · have hv : Hid (V = (n1, k + 1)) := by show _ = _; rw [hv0.out, if_neg hneg]
            go_wp2_with (first | (go_at_call 36; refine (begins_any s _ _ hs (by decide)).mono ?_; rintro e w' ⟨rfl, rfl⟩) | (go_at_call 37; refine (number_10 _ _ hxz2 n1 hn1).mono ?_; rintro e w' ⟨rfl, rfl⟩))
            go_ret2
            exact ⟨by rw [hv.out]; rfl, ((Below.refl _ _).alloc (Nat.le_refl _) _).alloc (by simp) _⟩
        · subst hb6
          have hk3 : 3 ≤ k := by
            have h3 := hp3.out rfl
            have h59 := h59'.out
            rcases (by omega : k = 2 ∨ 3 ≤ k) with rfl | h
            · have : (s.data.toList.take 3)[2]? = some 59 := by rw [List.getElem?_take]; simpa using h59
              rw [h3] at this; simp at this
            · exact h
          have hx3 : Hid ((s.extract 3 k).data.toList = (s.data.toList.take k).drop 3) := by
            show _ = _; rw [Lib.extract_data, List.drop_take]
          have hxz3 : (s.extract 3 k).size ≤ 12 := by simp; omega
          obtain ⟨n2, hn2⟩ : ∃ n, Hid (n = numR 16 (s.extract 3 k).data.toList) := ⟨_, rfl⟩
          have hv0 : Hid (V = if n2 < 0 then (0, 0) else (n2, k + 1)) := by
            show _ = _
            rw [hV.out, if_neg (by rw [he.out, HL.out]; simp; omega), he.out, hn2.out, hx3.out]; rfl
          by_cases hneg : n2 < 0
          · have hv : Hid (V = (0, 0)) := by show _ = _; rw [hv0.out, if_pos hneg]
            go_wp2_with (first | (go_at_call 36; refine (begins_any s _ _ hs (by decide)).mono ?_; rintro e w' ⟨rfl, rfl⟩) | (go_at_call 37; first | ((with_reducible refine (number_10 _ _ hxz2 n1 hn1).mono ?_); rintro e w' ⟨rfl, rfl⟩) | ((with_reducible refine (number_16 _ _ hxz3 n2 hn2).mono ?_); rintro e w' ⟨rfl, rfl⟩)))
            go_ret2
            exact ⟨by rw [hv.out]; rfl, ((Below.refl _ _).alloc (Nat.le_refl _) _).alloc (by simp) _⟩
          · have hv : Hid (V = (n2, k + 1)) := by show _ = _; rw [hv0.out, if_neg hneg]
            go_wp2_with (first | (go_at_call 36; refine (begins_any s _ _ hs (by decide)).mono ?_; rintro e w' ⟨rfl, rfl⟩) | (go_at_call 37; first | ((with_reducible refine (number_10 _ _ hxz2 n1 hn1).mono ?_); rintro e w' ⟨rfl, rfl⟩) | ((with_reducible refine (number_16 _ _ hxz3 n2 hn2).mono ?_); rintro e w' ⟨rfl, rfl⟩)))
            go_ret2
            exact ⟨by rw [hv.out]; rfl, ((Below.refl _ _).alloc (Nat.le_refl _) _).alloc (by simp) _⟩
    · have hxi : ¬ (x.toNat : Int) = 59 := fun h => h59 (UInt8.toNat_inj.1 (by have : (59 : UInt8).toNat = 59 := rfl; omega))
      have hx59 : ((x.toNat : Int) != 59) = true := by simp [hxi]
      have hx59' : ((x.toNat : Int) == 59) = false := by simp [hxi]
      have H59 := Lib.hid h59
      clear h59 hxi
      go_wp2_with fail
      go_round
      case rel =>
        refine ⟨k + 1, by omega, by omega, by go_num, ?_⟩
        show _ = _
        have hn : no59 x = true := by unfold no59; simpa using H59.out
        rw [List.take_add_one, HX.out, List.takeWhile_append, if_pos (by rw [htw.out])]
        show _ ++ [x].takeWhile no59 = _
        rw [List.takeWhile_cons, if_pos hn]; rfl
      case measure => simp [intOf]; omega

/-- The document's reference: any text. -/
theorem rrefer_any (s : ByteArray) (w : World) (hs : s.size ≤ maxLen) :
    Calls Try.prog 24 #[.string s] w (Ret w (.tuple #[.int .i64 (refL s.data.toList).1, .int .i64 ((refL s.data.toList).2 : Nat)])) := by
  rw [← refR_eq]
  unfold refR
  by_cases h0 : pre [38, 97, 109, 112, 59] s.data.toList = true
  · rw [if_pos h0]; exact rrefer_0 s w hs h0
  by_cases h1 : pre [38, 108, 116, 59] s.data.toList = true
  · rw [if_neg h0, if_pos h1]; exact rrefer_1 s w hs (by simpa using h0) h1
  by_cases h2 : pre [38, 103, 116, 59] s.data.toList = true
  · rw [if_neg h0, if_neg h1, if_pos h2]; exact rrefer_2 s w hs (by simpa using h0) (by simpa using h1) h2
  by_cases h3 : pre [38, 113, 117, 111, 116, 59] s.data.toList = true
  · rw [if_neg h0, if_neg h1, if_neg h2, if_pos h3]; exact rrefer_3 s w hs (by simpa using h0) (by simpa using h1) (by simpa using h2) h3
  by_cases h4 : pre [38, 97, 112, 111, 115, 59] s.data.toList = true
  · rw [if_neg h0, if_neg h1, if_neg h2, if_neg h3, if_pos h4]; exact rrefer_4 s w hs (by simpa using h0) (by simpa using h1) (by simpa using h2) (by simpa using h3) h4
  rw [if_neg h0, if_neg h1, if_neg h2, if_neg h3, if_neg h4]
  exact rrefer_num s w hs (by simpa using h0) (by simpa using h1) (by simpa using h2) (by simpa using h3) (by simpa using h4) _ _ _ rfl rfl rfl
end Go.Proofs.Ythfdlkafpeadiaa

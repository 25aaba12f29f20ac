/-
  Texts of this claim, joined (by a program of the claim's author): RNum, RRefer, RUndo.
-/
import Derived.Test.YthifddkmbjnncaaK2
import Derived.Test.YthifddkmbjnncaaK5
import Derived.Deep.QuietTactic
import Derived.BigQuiet
import Derived.RegionTactic
import Derived.ChangeAlike
import Derived.Test.YthifddkmbjnncaaK4
/-
  The walks of the document's begins, number and reference.
-/
namespace Go.Proofs.Ythifddkmbjnncaa
open Go.RowKit

set_option maxRecDepth 100000 in
set_option maxHeartbeats 400000 in
theorem begins_any (s : ByteArray) (p : List UInt8) (w : World) (_hs : s.size ≤ maxLen) (_hp : p.length ≤ 1000) :
    Calls Try.prog 134 #[.string s, .string ⟨p.toArray⟩] w fun e w' => e = .returned (.bool (pre p s.data.toList)) ∧ w = w' := by
  unfold maxLen at _hs
  have hl := Lib.hid (size_toList s)
  by_cases hc : p.length ≤ s.size
  · have hx : Hid ((s.extract 0 p.length).toList = s.data.toList.take p.length) := by
      show _ = _; rw [ByteArray.toList_eq, Lib.extract_data]; rfl
    have hpt : Hid (∀ (q : List UInt8), (⟨q.toArray⟩ : ByteArray).toList = q) := fun q => by rw [ByteArray.toList_eq]
    by_cases hq : ((s.extract 0 p.length).toList == p) = true
    · have hv : Hid (pre p s.data.toList = true) := by
        show _ = _; unfold pre; rw [← hx.out]; exact hq
      go_enter Try.func134, Try.ntmps134
      go_wp2_with fail
      go_ret
      exact ⟨by rw [hv.out]; rfl, rfl⟩
    · have hq' : ((s.extract 0 p.length).toList == p) = false := by simpa using hq
      clear hq
      have hv : Hid (pre p s.data.toList = false) := by
        show _ = _; unfold pre; rw [← hx.out]; exact hq'
      go_enter Try.func134, Try.ntmps134
      go_wp2_with fail
      go_ret
      exact ⟨by rw [hv.out]; rfl, rfl⟩
  · have hv : Hid (pre p s.data.toList = false) := by
      cases hh : pre p s.data.toList with
      | false => rfl
      | true => have := pre_len hh; have := hl.out; omega
    have hc' : s.size < p.length := by omega
    clear hc
    go_enter Try.func134, Try.ntmps134
    go_wp2_with fail
    go_ret
    exact ⟨by rw [hv.out]; rfl, rfl⟩

set_option maxRecDepth 100000 in
set_option maxHeartbeats 2000000 in
theorem number_10 (s : ByteArray) (w : World) (hs : s.size ≤ 12) (V : Int) (hV : Hid (V = numR 10 s.data.toList)) :
    Calls Try.prog 135 #[.string s, .int .i64 10] w fun e w' => e = .returned (.int .i64 V) ∧ w = w' := by
  have HL := Lib.hid (size_toList s)
  go_enter Try.func135, Try.ntmps135
  go_wp2_with fail
  go_loop [5, 6] (fun c i => ∃ (k : Nat) (cv : Int), k ≤ s.size ∧ i = .int .i64 k ∧ c = .int .i64 cv ∧ 0 ≤ cv ∧ Hid (cv < 16 ^ k) ∧ Hid (digs 10 (s.data.toList.take k) = true) ∧ Hid (cv = numF 10 0 (s.data.toList.take k))) (fun _ i => s.size - (intOf i).toNat)
  case atStart => exact ⟨0, 0, Nat.zero_le _, rfl, rfl, by omega, (by decide : (0 : Int) < 16 ^ 0), rfl, rfl⟩
  case round =>
    obtain ⟨k, cv, hk, rfl, rfl, hc0, hc1, hdg, hnf⟩ := hrel
    have hcv : cv < 281474976710656 := by
      have := hc1.out
      have : (16 : Int) ^ k ≤ 16 ^ 12 := by
        rcases (by omega : k = 0 ∨ k = 1 ∨ k = 2 ∨ k = 3 ∨ k = 4 ∨ k = 5 ∨ k = 6 ∨ k = 7 ∨ k = 8 ∨ k = 9 ∨ k = 10 ∨ k = 11 ∨ k = 12) with rfl | rfl | rfl | rfl | rfl | rfl | rfl | rfl | rfl | rfl | rfl | rfl | rfl <;> decide
      have e : (16 : Int) ^ 12 = 281474976710656 := by decide
      omega
    by_cases hlt : k < s.size
    · obtain ⟨x, HX⟩ : ∃ x, Hid (s.data.toList[k]? = some x) := ⟨s.data.toList[k]'(by have := HL.out; omega), List.getElem?_eq_getElem _⟩
      have hsx : s[k] = x := getk_of s k x HX.out hlt
      have hx1 : (x.toNat : Int) < 256 := by have := x.toNat_lt; omega
      have htk : Hid (s.data.toList.take (k + 1) = s.data.toList.take k ++ [x]) := by
        have := HX.out
        show _ = _
        rw [List.take_add_one, this]; rfl
      have hmem : Hid (x ∈ s.data.toList) := List.mem_of_getElem? HX.out
      rcases (by omega : (48 ≤ (x.toNat : Int) ∧ (x.toNat : Int) ≤ 57) ∨ (x.toNat : Int) < 48 ∨ 57 < (x.toNat : Int)) with ⟨hA, hA'⟩ | hB | hC
      · have hd : Hid (digitV 10 x.toNat = (x.toNat : Int) - 48) := by
          show _ = _; unfold digitV; repeat (first | rw [if_pos (by omega)] | rw [if_neg (by omega)])
        have hpw : Hid (cv * 10 + ((x.toNat : Int) - 48) < 16 ^ (k + 1)) := by
          have := hc1.out
          show _ < _
          rw [Int.pow_succ]; omega
        go_wp2_with fail
        go_round
        case rel =>
          refine ⟨k + 1, cv * 10 + ((x.toNat : Int) - 48), by omega, by go_num, rfl, by omega, hpw, ?_, ?_⟩
          · show _ = _
            rw [htk.out]
            unfold digs
            rw [List.all_append]
            have := hdg.out
            unfold digs at this
            rw [this]; simp [hd.out]; omega
          · show _ = _
            rw [htk.out, numF, List.foldl_append]
            show _ = numF 10 0 (s.data.toList.take k) * 10 + digitV 10 x.toNat
            rw [← hnf.out, hd.out]
        case measure => simp [intOf]; omega
      · have hd : Hid (digitV 10 x.toNat = -1) := by
          show _ = _; unfold digitV; repeat (first | rw [if_pos (by omega)] | rw [if_neg (by omega)])
        have hv : Hid (V = -1) := by
          show _ = _
          rw [hV.out]
          unfold numR
          rw [if_neg]
          rintro ⟨hall, _⟩
          unfold digs at hall
          rw [List.all_eq_true] at hall
          have := of_decide_eq_true (hall x hmem.out)
          rw [hd.out] at this
          omega
        go_wp2_with fail
        go_ret
        exact ⟨by rw [hv.out]; rfl, rfl⟩
      · have hd : Hid (digitV 10 x.toNat = -1) := by
          show _ = _; unfold digitV; repeat (first | rw [if_pos (by omega)] | rw [if_neg (by omega)])
        have hv : Hid (V = -1) := by
          show _ = _
          rw [hV.out]
          unfold numR
          rw [if_neg]
          rintro ⟨hall, _⟩
          unfold digs at hall
          rw [List.all_eq_true] at hall
          have := of_decide_eq_true (hall x hmem.out)
          rw [hd.out] at this
          omega
        go_wp2_with fail
        go_ret
        exact ⟨by rw [hv.out]; rfl, rfl⟩
    · have hk' : k = s.size := by omega
      have hfull : s.data.toList.take k = s.data.toList := List.take_of_length_le (by have := HL.out; omega)
      have hdg' : digs 10 s.data.toList = true := by have := hdg.out; rwa [hfull] at this
      have hnf' : cv = numF 10 0 s.data.toList := by have := hnf.out; rwa [hfull] at this
      have HD := Lib.hid hdg'; have HN := Lib.hid hnf'
      clear hfull hdg' hnf'
      by_cases hr : 1 ≤ s.size ∧ s.size ≤ 7
      · obtain ⟨hr1, hr7⟩ := hr
        have hv : Hid (V = cv) := by
          have := HL.out
          show _ = _
          rw [hV.out, HN.out]; unfold numR; rw [if_pos ⟨HD.out, by omega, by omega⟩]
        clear hk'
        go_wp2_with fail
        go_ret
        exact ⟨by rw [hv.out]; rfl, rfl⟩
      · have hv : Hid (V = -1) := by
          have := HL.out
          show _ = _
          rw [hV.out]; unfold numR; rw [if_neg (fun h => hr ⟨by omega, by omega⟩)]
        clear hk'
        rcases (by omega : s.size < 1 ∨ (1 ≤ s.size ∧ 7 < s.size)) with h1 | ⟨h1, h7⟩
        · clear hr
          go_wp2_with fail
          go_ret
          exact ⟨by rw [hv.out]; rfl, rfl⟩
        · clear hr
          go_wp2_with fail
          go_ret
          exact ⟨by rw [hv.out]; rfl, rfl⟩

set_option maxRecDepth 100000 in
set_option maxHeartbeats 2000000 in
theorem number_16 (s : ByteArray) (w : World) (hs : s.size ≤ 12) (V : Int) (hV : Hid (V = numR 16 s.data.toList)) :
    Calls Try.prog 135 #[.string s, .int .i64 16] w fun e w' => e = .returned (.int .i64 V) ∧ w = w' := by
  have HL := Lib.hid (size_toList s)
  go_enter Try.func135, Try.ntmps135
  go_wp2_with fail
  go_loop [5, 6] (fun c i => ∃ (k : Nat) (cv : Int), k ≤ s.size ∧ i = .int .i64 k ∧ c = .int .i64 cv ∧ 0 ≤ cv ∧ Hid (cv < 16 ^ k) ∧ Hid (digs 16 (s.data.toList.take k) = true) ∧ Hid (cv = numF 16 0 (s.data.toList.take k))) (fun _ i => s.size - (intOf i).toNat)
  case atStart => exact ⟨0, 0, Nat.zero_le _, rfl, rfl, by omega, (by decide : (0 : Int) < 16 ^ 0), rfl, rfl⟩
  case round =>
    obtain ⟨k, cv, hk, rfl, rfl, hc0, hc1, hdg, hnf⟩ := hrel
    have hcv : cv < 281474976710656 := by
      have := hc1.out
      have : (16 : Int) ^ k ≤ 16 ^ 12 := by
        rcases (by omega : k = 0 ∨ k = 1 ∨ k = 2 ∨ k = 3 ∨ k = 4 ∨ k = 5 ∨ k = 6 ∨ k = 7 ∨ k = 8 ∨ k = 9 ∨ k = 10 ∨ k = 11 ∨ k = 12) with rfl | rfl | rfl | rfl | rfl | rfl | rfl | rfl | rfl | rfl | rfl | rfl | rfl <;> decide
      have e : (16 : Int) ^ 12 = 281474976710656 := by decide
      omega
    by_cases hlt : k < s.size
    · obtain ⟨x, HX⟩ : ∃ x, Hid (s.data.toList[k]? = some x) := ⟨s.data.toList[k]'(by have := HL.out; omega), List.getElem?_eq_getElem _⟩
      have hsx : s[k] = x := getk_of s k x HX.out hlt
      have hx1 : (x.toNat : Int) < 256 := by have := x.toNat_lt; omega
      have htk : Hid (s.data.toList.take (k + 1) = s.data.toList.take k ++ [x]) := by
        have := HX.out
        show _ = _
        rw [List.take_add_one, this]; rfl
      have hmem : Hid (x ∈ s.data.toList) := List.mem_of_getElem? HX.out
      rcases (by omega : (48 ≤ (x.toNat : Int) ∧ (x.toNat : Int) ≤ 57) ∨ (97 ≤ (x.toNat : Int) ∧ (x.toNat : Int) ≤ 102) ∨ (65 ≤ (x.toNat : Int) ∧ (x.toNat : Int) ≤ 70) ∨ (x.toNat : Int) < 48 ∨ (58 ≤ (x.toNat : Int) ∧ (x.toNat : Int) ≤ 64) ∨ (71 ≤ (x.toNat : Int) ∧ (x.toNat : Int) ≤ 96) ∨ 102 < (x.toNat : Int)) with ⟨hA, hA'⟩ | ⟨hA, hA'⟩ | ⟨hA, hA'⟩ | hB | ⟨hB, hB'⟩ | ⟨hB, hB'⟩ | hB
      · have hd : Hid (digitV 16 x.toNat = (x.toNat : Int) - 48) := by
          show _ = _; unfold digitV; repeat (first | rw [if_pos (by omega)] | rw [if_neg (by omega)])
        have hpw : Hid (cv * 16 + ((x.toNat : Int) - 48) < 16 ^ (k + 1)) := by
          have := hc1.out
          show _ < _
          rw [Int.pow_succ]; omega
        go_wp2_with fail
        go_round
        case rel =>
          refine ⟨k + 1, cv * 16 + ((x.toNat : Int) - 48), by omega, by go_num, rfl, by omega, hpw, ?_, ?_⟩
          · show _ = _
            rw [htk.out]
            unfold digs
            rw [List.all_append]
            have := hdg.out
            unfold digs at this
            rw [this]; simp [hd.out]; omega
          · show _ = _
            rw [htk.out, numF, List.foldl_append]
            show _ = numF 16 0 (s.data.toList.take k) * 16 + digitV 16 x.toNat
            rw [← hnf.out, hd.out]
        case measure => simp [intOf]; omega
      · have hd : Hid (digitV 16 x.toNat = (x.toNat : Int) - 87) := by
          show _ = _; unfold digitV; repeat (first | rw [if_pos (by omega)] | rw [if_neg (by omega)])
        have hpw : Hid (cv * 16 + ((x.toNat : Int) - 87) < 16 ^ (k + 1)) := by
          have := hc1.out
          show _ < _
          rw [Int.pow_succ]; omega
        go_wp2_with fail
        go_round
        case rel =>
          refine ⟨k + 1, cv * 16 + ((x.toNat : Int) - 87), by omega, by go_num, rfl, by omega, hpw, ?_, ?_⟩
          · show _ = _
            rw [htk.out]
            unfold digs
            rw [List.all_append]
            have := hdg.out
            unfold digs at this
            rw [this]; simp [hd.out]; omega
          · show _ = _
            rw [htk.out, numF, List.foldl_append]
            show _ = numF 16 0 (s.data.toList.take k) * 16 + digitV 16 x.toNat
            rw [← hnf.out, hd.out]
        case measure => simp [intOf]; omega
      · have hd : Hid (digitV 16 x.toNat = (x.toNat : Int) - 55) := by
          show _ = _; unfold digitV; repeat (first | rw [if_pos (by omega)] | rw [if_neg (by omega)])
        have hpw : Hid (cv * 16 + ((x.toNat : Int) - 55) < 16 ^ (k + 1)) := by
          have := hc1.out
          show _ < _
          rw [Int.pow_succ]; omega
        go_wp2_with fail
        go_round
        case rel =>
          refine ⟨k + 1, cv * 16 + ((x.toNat : Int) - 55), by omega, by go_num, rfl, by omega, hpw, ?_, ?_⟩
          · show _ = _
            rw [htk.out]
            unfold digs
            rw [List.all_append]
            have := hdg.out
            unfold digs at this
            rw [this]; simp [hd.out]; omega
          · show _ = _
            rw [htk.out, numF, List.foldl_append]
            show _ = numF 16 0 (s.data.toList.take k) * 16 + digitV 16 x.toNat
            rw [← hnf.out, hd.out]
        case measure => simp [intOf]; omega
      · have hd : Hid (digitV 16 x.toNat = -1) := by
          show _ = _; unfold digitV; repeat (first | rw [if_pos (by omega)] | rw [if_neg (by omega)])
        have hv : Hid (V = -1) := by
          show _ = _
          rw [hV.out]
          unfold numR
          rw [if_neg]
          rintro ⟨hall, _⟩
          unfold digs at hall
          rw [List.all_eq_true] at hall
          have := of_decide_eq_true (hall x hmem.out)
          rw [hd.out] at this
          omega
        go_wp2_with fail
        go_ret
        exact ⟨by rw [hv.out]; rfl, rfl⟩
      · have hd : Hid (digitV 16 x.toNat = -1) := by
          show _ = _; unfold digitV; repeat (first | rw [if_pos (by omega)] | rw [if_neg (by omega)])
        have hv : Hid (V = -1) := by
          show _ = _
          rw [hV.out]
          unfold numR
          rw [if_neg]
          rintro ⟨hall, _⟩
          unfold digs at hall
          rw [List.all_eq_true] at hall
          have := of_decide_eq_true (hall x hmem.out)
          rw [hd.out] at this
          omega
        go_wp2_with fail
        go_ret
        exact ⟨by rw [hv.out]; rfl, rfl⟩
      · have hd : Hid (digitV 16 x.toNat = -1) := by
          show _ = _; unfold digitV; repeat (first | rw [if_pos (by omega)] | rw [if_neg (by omega)])
        have hv : Hid (V = -1) := by
          show _ = _
          rw [hV.out]
          unfold numR
          rw [if_neg]
          rintro ⟨hall, _⟩
          unfold digs at hall
          rw [List.all_eq_true] at hall
          have := of_decide_eq_true (hall x hmem.out)
          rw [hd.out] at this
          omega
        go_wp2_with fail
        go_ret
        exact ⟨by rw [hv.out]; rfl, rfl⟩
      · have hd : Hid (digitV 16 x.toNat = -1) := by
          show _ = _; unfold digitV; repeat (first | rw [if_pos (by omega)] | rw [if_neg (by omega)])
        have hv : Hid (V = -1) := by
          show _ = _
          rw [hV.out]
          unfold numR
          rw [if_neg]
          rintro ⟨hall, _⟩
          unfold digs at hall
          rw [List.all_eq_true] at hall
          have := of_decide_eq_true (hall x hmem.out)
          rw [hd.out] at this
          omega
        go_wp2_with fail
        go_ret
        exact ⟨by rw [hv.out]; rfl, rfl⟩
    · have hk' : k = s.size := by omega
      have hfull : s.data.toList.take k = s.data.toList := List.take_of_length_le (by have := HL.out; omega)
      have hdg' : digs 16 s.data.toList = true := by have := hdg.out; rwa [hfull] at this
      have hnf' : cv = numF 16 0 s.data.toList := by have := hnf.out; rwa [hfull] at this
      have HD := Lib.hid hdg'; have HN := Lib.hid hnf'
      clear hfull hdg' hnf'
      by_cases hr : 1 ≤ s.size ∧ s.size ≤ 7
      · obtain ⟨hr1, hr7⟩ := hr
        have hv : Hid (V = cv) := by
          have := HL.out
          show _ = _
          rw [hV.out, HN.out]; unfold numR; rw [if_pos ⟨HD.out, by omega, by omega⟩]
        clear hk'
        go_wp2_with fail
        go_ret
        exact ⟨by rw [hv.out]; rfl, rfl⟩
      · have hv : Hid (V = -1) := by
          have := HL.out
          show _ = _
          rw [hV.out]; unfold numR; rw [if_neg (fun h => hr ⟨by omega, by omega⟩)]
        clear hk'
        rcases (by omega : s.size < 1 ∨ (1 ≤ s.size ∧ 7 < s.size)) with h1 | ⟨h1, h7⟩
        · clear hr
          go_wp2_with fail
          go_ret
          exact ⟨by rw [hv.out]; rfl, rfl⟩
        · clear hr
          go_wp2_with fail
          go_ret
          exact ⟨by rw [hv.out]; rfl, rfl⟩
end Go.Proofs.Ythifddkmbjnncaa

/-
  The walk of the document's reference.
-/
namespace Go.Proofs.Ythifddkmbjnncaa
open Go.RowKit

set_option maxRecDepth 100000 in
set_option maxHeartbeats 1000000 in
theorem rrefer_0 (s : ByteArray) (w : World) (hs : s.size ≤ maxLen) (h0 : pre [38, 97, 109, 112, 59] s.data.toList = true) :
    Calls Try.prog 113 #[.string s] w (Ret w (.tuple #[.int .i64 38, .int .i64 5])) := by
  go_enter Try.func113, Try.ntmps113
  go_wp2_with fail
  refine wp_loop_rounds 6 ?_
  rw [rounds_succ]
  go_wp2_with (go_at_call 134; refine (begins_any s _ _ hs (by decide)).mono ?_; rintro e w' ⟨rfl, rfl⟩)
  go_region
  all_goals (try go_wp2_with fail)
  all_goals go_ret2
  all_goals exact ⟨rfl, (((Below.refl _ _).alloc (Nat.le_refl _) _).alloc (by simp) _).drew⟩

set_option maxRecDepth 100000 in
set_option maxHeartbeats 1000000 in
theorem rrefer_1 (s : ByteArray) (w : World) (hs : s.size ≤ maxLen) (h0 : pre [38, 97, 109, 112, 59] s.data.toList = false) (h1 : pre [38, 108, 116, 59] s.data.toList = true) :
    Calls Try.prog 113 #[.string s] w (Ret w (.tuple #[.int .i64 60, .int .i64 4])) := by
  go_enter Try.func113, Try.ntmps113
  go_wp2_with fail
  refine wp_loop_rounds 6 ?_
  rw [rounds_succ]
  go_wp2_with (go_at_call 134; refine (begins_any s _ _ hs (by decide)).mono ?_; rintro e w' ⟨rfl, rfl⟩)
  rw [rounds_succ]
  go_wp2_with (go_at_call 134; refine (begins_any s _ _ hs (by decide)).mono ?_; rintro e w' ⟨rfl, rfl⟩)
  go_region
  all_goals (try go_wp2_with fail)
  all_goals go_ret2
  all_goals exact ⟨rfl, (((Below.refl _ _).alloc (Nat.le_refl _) _).alloc (by simp) _).drew⟩

set_option maxRecDepth 100000 in
set_option maxHeartbeats 1000000 in
theorem rrefer_2 (s : ByteArray) (w : World) (hs : s.size ≤ maxLen) (h0 : pre [38, 97, 109, 112, 59] s.data.toList = false) (h1 : pre [38, 108, 116, 59] s.data.toList = false) (h2 : pre [38, 103, 116, 59] s.data.toList = true) :
    Calls Try.prog 113 #[.string s] w (Ret w (.tuple #[.int .i64 62, .int .i64 4])) := by
  go_enter Try.func113, Try.ntmps113
  go_wp2_with fail
  refine wp_loop_rounds 6 ?_
  rw [rounds_succ]
  go_wp2_with (go_at_call 134; refine (begins_any s _ _ hs (by decide)).mono ?_; rintro e w' ⟨rfl, rfl⟩)
  rw [rounds_succ]
  go_wp2_with (go_at_call 134; refine (begins_any s _ _ hs (by decide)).mono ?_; rintro e w' ⟨rfl, rfl⟩)
  rw [rounds_succ]
  go_wp2_with (go_at_call 134; refine (begins_any s _ _ hs (by decide)).mono ?_; rintro e w' ⟨rfl, rfl⟩)
  go_region
  all_goals (try go_wp2_with fail)
  all_goals go_ret2
  all_goals exact ⟨rfl, (((Below.refl _ _).alloc (Nat.le_refl _) _).alloc (by simp) _).drew⟩

set_option maxRecDepth 100000 in
set_option maxHeartbeats 1000000 in
theorem rrefer_3 (s : ByteArray) (w : World) (hs : s.size ≤ maxLen) (h0 : pre [38, 97, 109, 112, 59] s.data.toList = false) (h1 : pre [38, 108, 116, 59] s.data.toList = false) (h2 : pre [38, 103, 116, 59] s.data.toList = false) (h3 : pre [38, 113, 117, 111, 116, 59] s.data.toList = true) :
    Calls Try.prog 113 #[.string s] w (Ret w (.tuple #[.int .i64 34, .int .i64 6])) := by
  go_enter Try.func113, Try.ntmps113
  go_wp2_with fail
  refine wp_loop_rounds 6 ?_
  rw [rounds_succ]
  go_wp2_with (go_at_call 134; refine (begins_any s _ _ hs (by decide)).mono ?_; rintro e w' ⟨rfl, rfl⟩)
  rw [rounds_succ]
  go_wp2_with (go_at_call 134; refine (begins_any s _ _ hs (by decide)).mono ?_; rintro e w' ⟨rfl, rfl⟩)
  rw [rounds_succ]
  go_wp2_with (go_at_call 134; refine (begins_any s _ _ hs (by decide)).mono ?_; rintro e w' ⟨rfl, rfl⟩)
  rw [rounds_succ]
  go_wp2_with (go_at_call 134; refine (begins_any s _ _ hs (by decide)).mono ?_; rintro e w' ⟨rfl, rfl⟩)
  go_region
  all_goals (try go_wp2_with fail)
  all_goals go_ret2
  all_goals exact ⟨rfl, (((Below.refl _ _).alloc (Nat.le_refl _) _).alloc (by simp) _).drew⟩

set_option maxRecDepth 100000 in
set_option maxHeartbeats 1000000 in
theorem rrefer_4 (s : ByteArray) (w : World) (hs : s.size ≤ maxLen) (h0 : pre [38, 97, 109, 112, 59] s.data.toList = false) (h1 : pre [38, 108, 116, 59] s.data.toList = false) (h2 : pre [38, 103, 116, 59] s.data.toList = false) (h3 : pre [38, 113, 117, 111, 116, 59] s.data.toList = false) (h4 : pre [38, 97, 112, 111, 115, 59] s.data.toList = true) :
    Calls Try.prog 113 #[.string s] w (Ret w (.tuple #[.int .i64 39, .int .i64 6])) := by
  go_enter Try.func113, Try.ntmps113
  go_wp2_with fail
  refine wp_loop_rounds 6 ?_
  rw [rounds_succ]
  go_wp2_with (go_at_call 134; refine (begins_any s _ _ hs (by decide)).mono ?_; rintro e w' ⟨rfl, rfl⟩)
  rw [rounds_succ]
  go_wp2_with (go_at_call 134; refine (begins_any s _ _ hs (by decide)).mono ?_; rintro e w' ⟨rfl, rfl⟩)
  rw [rounds_succ]
  go_wp2_with (go_at_call 134; refine (begins_any s _ _ hs (by decide)).mono ?_; rintro e w' ⟨rfl, rfl⟩)
  rw [rounds_succ]
  go_wp2_with (go_at_call 134; refine (begins_any s _ _ hs (by decide)).mono ?_; rintro e w' ⟨rfl, rfl⟩)
  rw [rounds_succ]
  go_wp2_with (go_at_call 134; refine (begins_any s _ _ hs (by decide)).mono ?_; rintro e w' ⟨rfl, rfl⟩)
  go_region
  all_goals (try go_wp2_with fail)
  all_goals go_ret2
  all_goals exact ⟨rfl, (((Below.refl _ _).alloc (Nat.le_refl _) _).alloc (by simp) _).drew⟩

set_option maxRecDepth 100000 in
set_option maxHeartbeats 4000000 in
theorem rrefer_num (s : ByteArray) (w : World) (hs : s.size ≤ maxLen) (h0 : pre [38, 97, 109, 112, 59] s.data.toList = false) (h1 : pre [38, 108, 116, 59] s.data.toList = false) (h2 : pre [38, 103, 116, 59] s.data.toList = false) (h3 : pre [38, 113, 117, 111, 116, 59] s.data.toList = false) (h4 : pre [38, 97, 112, 111, 115, 59] s.data.toList = false) (V : Int × Nat) (b5 b6 : Bool) (h5 : pre [38, 35] s.data.toList = b5) (h6 : pre [38, 35, 120] s.data.toList = b6)
    (hV : Hid (V = if endRf s.data.toList = s.data.toList.length ∨ endRf s.data.toList = 12 ∨ b5 = false then (0, 0) else
      if (if b6 = true then numR 16 ((s.data.toList.take (endRf s.data.toList)).drop 3) else numR 10 ((s.data.toList.take (endRf s.data.toList)).drop 2)) < 0 then (0, 0)
      else ((if b6 = true then numR 16 ((s.data.toList.take (endRf s.data.toList)).drop 3) else numR 10 ((s.data.toList.take (endRf s.data.toList)).drop 2)), endRf s.data.toList + 1))) :
    Calls Try.prog 113 #[.string s] w (Ret w (.tuple #[.int .i64 V.1, .int .i64 (V.2 : Nat)])) := by
  have hs' := hs
  unfold maxLen at hs'
  have HL := Lib.hid (size_toList s)
  have hp2 : Hid (b5 = true → s.data.toList.take 2 = [38, 35]) := fun h => by rw [h] at h5; exact eq_of_beq h5
  have hp3 : Hid (b6 = true → s.data.toList.take 3 = [38, 35, 120]) := fun h => by rw [h] at h6; exact eq_of_beq h6
  go_enter Try.func113, Try.ntmps113
  go_wp2_with fail
  refine wp_loop_rounds 6 ?_
  rw [rounds_succ]
  go_wp2_with (go_at_call 134; refine (begins_any s _ _ hs (by decide)).mono ?_; rintro e w' ⟨rfl, rfl⟩)
  rw [rounds_succ]
  go_wp2_with (go_at_call 134; refine (begins_any s _ _ hs (by decide)).mono ?_; rintro e w' ⟨rfl, rfl⟩)
  rw [rounds_succ]
  go_wp2_with (go_at_call 134; refine (begins_any s _ _ hs (by decide)).mono ?_; rintro e w' ⟨rfl, rfl⟩)
  rw [rounds_succ]
  go_wp2_with (go_at_call 134; refine (begins_any s _ _ hs (by decide)).mono ?_; rintro e w' ⟨rfl, rfl⟩)
  rw [rounds_succ]
  go_wp2_with (go_at_call 134; refine (begins_any s _ _ hs (by decide)).mono ?_; rintro e w' ⟨rfl, rfl⟩)
  rw [rounds_succ]
  go_wp2_with (go_at_call 134; refine (begins_any s _ _ hs (by decide)).mono ?_; rintro e w' ⟨rfl, rfl⟩)
  go_loop [7] (fun i => ∃ k : Nat, k ≤ s.size ∧ k ≤ 12 ∧ i = .int .i64 k ∧ Hid ((s.data.toList.take k).takeWhile no59 = s.data.toList.take k)) (fun i => s.size - (intOf i).toNat)
  case atStart => exact ⟨0, Nat.zero_le _, Nat.zero_le _, rfl, rfl⟩
  case round =>
    obtain ⟨k, hk, hk12, rfl, htw⟩ := hrel
    have hend0 : Hid (∀ rest : List UInt8, (rest.takeWhile no59 = []) → s.data.toList.take 12 = s.data.toList.take k ++ rest → endRf s.data.toList = k) := by
      intro rest hr he
      unfold endRf
      rw [he, List.takeWhile_append, if_pos (by rw [htw.out]), hr, List.append_nil, List.length_take]
      have := HL.out; omega
    by_cases hA : s.size ≤ k
    · have he : Hid (endRf s.data.toList = k) := by
        refine hend0.out [] rfl ?_
        have := HL.out
        rw [List.append_nil, List.take_of_length_le (by omega), List.take_of_length_le (by omega)]
      have hv : Hid (V = (0, 0)) := by
        show _ = _
        rw [hV.out, if_pos (.inl (by rw [he.out, HL.out]; omega))]
      have hke : k = s.size := by omega
      have h1 : ((k : Int) == (s.size : Int)) = true := by rw [hke]; simp
      have h1' : (k == s.size) = true := by rw [hke]; simp
      clear hke
      go_wp2_with fail
      go_ret2
      exact ⟨by rw [hv.out]; rfl, ((Below.refl _ _).alloc (Nat.le_refl _) _).alloc (by simp) _⟩
    by_cases hB : 12 ≤ k
    · have he : Hid (endRf s.data.toList = k) := by
        refine hend0.out [] rfl ?_
        rw [List.append_nil]; congr 1; omega
      have hv : Hid (V = (0, 0)) := by
        show _ = _
        rw [hV.out, if_pos (.inr (.inl (by rw [he.out]; omega)))]
      have h0 : ((k : Int) == (s.size : Int)) = false := by simp; omega
      have h0' : (k == s.size) = false := by simp; omega
      have hk12' : ((k : Int) == 12) = true := by simp; omega
      have hks : k < s.size := by omega
      clear hA
      go_wp2_with fail
      go_ret2
      exact ⟨by rw [hv.out]; rfl, ((Below.refl _ _).alloc (Nat.le_refl _) _).alloc (by simp) _⟩
    have hks : k < s.size := by omega
    have hkl : k < 12 := by omega
    have h0 : ((k : Int) == (s.size : Int)) = false := by simp; omega
    have h0' : (k == s.size) = false := by simp; omega
    have hk12' : ((k : Int) == 12) = false := by simp; omega
    obtain ⟨x, HX⟩ : ∃ x, Hid (s.data.toList[k]? = some x) := ⟨s.data.toList[k]'(by have := HL.out; omega), List.getElem?_eq_getElem _⟩
    have hsx : s[k] = x := getk_of s k x HX.out hks
    have hdr : Hid (s.data.toList.drop k = x :: s.data.toList.drop (k + 1)) := by
      have hj' : k < s.data.toList.length := by have := HL.out; omega
      have hg := HX.out
      rw [List.getElem?_eq_getElem hj'] at hg
      show _ = _
      rw [List.drop_eq_getElem_cons hj', Option.some.inj hg]
    clear hA hB
    by_cases h59 : x = 59
    · have he : Hid (endRf s.data.toList = k) := by
        refine hend0.out ((s.data.toList.drop k).take (12 - k)) ?_ ?_
        · rw [hdr.out, h59]
          obtain ⟨m, hm⟩ : ∃ m, 12 - k = m + 1 := ⟨11 - k, by omega⟩
          rw [hm, List.take_succ_cons]
          simp [List.takeWhile, no59]
        · have : (12 : Nat) = k + (12 - k) := by omega
          conv => lhs; rw [this]
          rw [List.take_add]
      have hx59 : ((x.toNat : Int) != 59) = false := by rw [h59]; rfl
      have hx59' : ((x.toNat : Int) == 59) = true := by rw [h59]; rfl
      have h59' : Hid (s.data.toList[k]? = some 59) := by have := HX.out; rw [h59] at this; exact this
      clear h59
      cases hb5 : b5
      · subst hb5
        have hv : Hid (V = (0, 0)) := by
          show _ = _
          rw [hV.out, if_pos (.inr (.inr rfl))]
        go_wp2_with (go_at_call 134; refine (begins_any s _ _ hs (by decide)).mono ?_; rintro e w' ⟨rfl, rfl⟩)
        go_ret2
        exact ⟨by rw [hv.out]; rfl, ((Below.refl _ _).alloc (Nat.le_refl _) _).alloc (by simp) _⟩
      · subst hb5
        have hk2 : 2 ≤ k := by
          have h2 := hp2.out rfl
          have h59 := h59'.out
          rcases (by omega : k = 0 ∨ k = 1 ∨ 2 ≤ k) with rfl | rfl | h
          · have : (s.data.toList.take 2)[0]? = some 59 := by rw [List.getElem?_take]; simpa using h59
            rw [h2] at this; simp at this
          · have : (s.data.toList.take 2)[1]? = some 59 := by rw [List.getElem?_take]; simpa using h59
            rw [h2] at this; simp at this
          · exact h
        have hx2 : Hid ((s.extract 2 k).data.toList = (s.data.toList.take k).drop 2) := by
          show _ = _; rw [Lib.extract_data, List.drop_take]
        have hxz2 : (s.extract 2 k).size ≤ 12 := by simp; omega
        obtain ⟨n1, hn1⟩ : ∃ n, Hid (n = numR 10 (s.extract 2 k).data.toList) := ⟨_, rfl⟩
        cases hb6 : b6
        · subst hb6
          have hv0 : Hid (V = if n1 < 0 then (0, 0) else (n1, k + 1)) := by
            show _ = _
            rw [hV.out, if_neg (by rw [he.out, HL.out]; simp; omega), he.out, hn1.out, hx2.out]; rfl
          by_cases hneg : n1 < 0
          · have hv : Hid (V = (0, 0)) := by show _ = _; rw [hv0.out, if_pos hneg]
            go_wp2_with (first | (go_at_call 134; refine (begins_any s _ _ hs (by decide)).mono ?_; rintro e w' ⟨rfl, rfl⟩) | (go_at_call 135; refine (number_10 _ _ hxz2 n1 hn1).mono ?_; rintro e w' ⟨rfl, rfl⟩))
            go_ret2
            exact ⟨by rw [hv.out]; rfl, ((Below.refl _ _).alloc (Nat.le_refl _) _).alloc (by simp) _⟩
          · have hv : Hid (V = (n1, k + 1)) := by show _ = _; rw [hv0.out, if_neg hneg]
            go_wp2_with (first | (go_at_call 134; refine (begins_any s _ _ hs (by decide)).mono ?_; rintro e w' ⟨rfl, rfl⟩) | (go_at_call 135; refine (number_10 _ _ hxz2 n1 hn1).mono ?_; rintro e w' ⟨rfl, rfl⟩))
            go_ret2
            exact ⟨by rw [hv.out]; rfl, ((Below.refl _ _).alloc (Nat.le_refl _) _).alloc (by simp) _⟩
        · subst hb6
          have hk3 : 3 ≤ k := by
            have h3 := hp3.out rfl
            have h59 := h59'.out
            rcases (by omega : k = 2 ∨ 3 ≤ k) with rfl | h
            · have : (s.data.toList.take 3)[2]? = some 59 := by rw [List.getElem?_take]; simpa using h59
              rw [h3] at this; simp at this
            · exact h
          have hx3 : Hid ((s.extract 3 k).data.toList = (s.data.toList.take k).drop 3) := by
            show _ = _; rw [Lib.extract_data, List.drop_take]
          have hxz3 : (s.extract 3 k).size ≤ 12 := by simp; omega
          obtain ⟨n2, hn2⟩ : ∃ n, Hid (n = numR 16 (s.extract 3 k).data.toList) := ⟨_, rfl⟩
          have hv0 : Hid (V = if n2 < 0 then (0, 0) else (n2, k + 1)) := by
            show _ = _
            rw [hV.out, if_neg (by rw [he.out, HL.out]; simp; omega), he.out, hn2.out, hx3.out]; rfl
          by_cases hneg : n2 < 0
          · have hv : Hid (V = (0, 0)) := by show _ = _; rw [hv0.out, if_pos hneg]
            go_wp2_with (first | (go_at_call 134; refine (begins_any s _ _ hs (by decide)).mono ?_; rintro e w' ⟨rfl, rfl⟩) | (go_at_call 135; first | ((with_reducible refine (number_10 _ _ hxz2 n1 hn1).mono ?_); rintro e w' ⟨rfl, rfl⟩) | ((with_reducible refine (number_16 _ _ hxz3 n2 hn2).mono ?_); rintro e w' ⟨rfl, rfl⟩)))
            go_ret2
            exact ⟨by rw [hv.out]; rfl, ((Below.refl _ _).alloc (Nat.le_refl _) _).alloc (by simp) _⟩
          · have hv : Hid (V = (n2, k + 1)) := by show _ = _; rw [hv0.out, if_neg hneg]
            go_wp2_with (first | (go_at_call 134; refine (begins_any s _ _ hs (by decide)).mono ?_; rintro e w' ⟨rfl, rfl⟩) | (go_at_call 135; first | ((with_reducible refine (number_10 _ _ hxz2 n1 hn1).mono ?_); rintro e w' ⟨rfl, rfl⟩) | ((with_reducible refine (number_16 _ _ hxz3 n2 hn2).mono ?_); rintro e w' ⟨rfl, rfl⟩)))
            go_ret2
            exact ⟨by rw [hv.out]; rfl, ((Below.refl _ _).alloc (Nat.le_refl _) _).alloc (by simp) _⟩
    · have hxi : ¬ (x.toNat : Int) = 59 := fun h => h59 (UInt8.toNat_inj.1 (by have : (59 : UInt8).toNat = 59 := rfl; omega))
      have hx59 : ((x.toNat : Int) != 59) = true := by simp [hxi]
      have hx59' : ((x.toNat : Int) == 59) = false := by simp [hxi]
      have H59 := Lib.hid h59
      clear h59 hxi
      go_wp2_with fail
      go_round
      case rel =>
        refine ⟨k + 1, by omega, by omega, by go_num, ?_⟩
        show _ = _
        have hn : no59 x = true := by unfold no59; simpa using H59.out
        rw [List.take_add_one, HX.out, List.takeWhile_append, if_pos (by rw [htw.out])]
        show _ ++ [x].takeWhile no59 = _
        rw [List.takeWhile_cons, if_pos hn]; rfl
      case measure => simp [intOf]; omega

/-- The document's reference: any text. -/
theorem rrefer_any (s : ByteArray) (w : World) (hs : s.size ≤ maxLen) :
    Calls Try.prog 113 #[.string s] w (Ret w (.tuple #[.int .i64 (refL s.data.toList).1, .int .i64 ((refL s.data.toList).2 : Nat)])) := by
  rw [← refR_eq]
  unfold refR
  by_cases h0 : pre [38, 97, 109, 112, 59] s.data.toList = true
  · rw [if_pos h0]; exact rrefer_0 s w hs h0
  by_cases h1 : pre [38, 108, 116, 59] s.data.toList = true
  · rw [if_neg h0, if_pos h1]; exact rrefer_1 s w hs (by simpa using h0) h1
  by_cases h2 : pre [38, 103, 116, 59] s.data.toList = true
  · rw [if_neg h0, if_neg h1, if_pos h2]; exact rrefer_2 s w hs (by simpa using h0) (by simpa using h1) h2
  by_cases h3 : pre [38, 113, 117, 111, 116, 59] s.data.toList = true
  · rw [if_neg h0, if_neg h1, if_neg h2, if_pos h3]; exact rrefer_3 s w hs (by simpa using h0) (by simpa using h1) (by simpa using h2) h3
  by_cases h4 : pre [38, 97, 112, 111, 115, 59] s.data.toList = true
  · rw [if_neg h0, if_neg h1, if_neg h2, if_neg h3, if_pos h4]; exact rrefer_4 s w hs (by simpa using h0) (by simpa using h1) (by simpa using h2) (by simpa using h3) h4
  rw [if_neg h0, if_neg h1, if_neg h2, if_neg h3, if_neg h4]
  exact rrefer_num s w hs (by simpa using h0) (by simpa using h1) (by simpa using h2) (by simpa using h3) (by simpa using h4) _ _ _ rfl rfl rfl
end Go.Proofs.Ythifddkmbjnncaa

/-
  The walk of the document's Undo.
-/
namespace Go.Proofs.Ythifddkmbjnncaa
open Go.RowKit

theorem rrefer_as (s : ByteArray) (w : World) (hs : s.size ≤ maxLen) (c : Int) (n : Nat) (h : Hid (refL s.data.toList = (c, n))) :
    Calls Try.prog 113 #[.string s] w (Ret w (.tuple #[.int .i64 c, .int .i64 (n : Nat)])) := by
  have := rrefer_any s w hs
  rw [h.out] at this
  exact this


set_option maxRecDepth 100000 in
set_option maxHeartbeats 4000000 in
theorem RUndo_true (s : ByteArray) (w : World) (hs : s.size ≤ 1000000000) (V : List UInt8 × Nat × Int) (hV : Hid (V = undoL true s.data.toList)) :
    Calls Try.prog 94 #[.string s, .bool true] w (Ret w (.tuple #[.string ⟨V.1.toArray⟩, .int .i64 (V.2.1 : Nat), .int .i64 V.2.2])) := by
  go_enter Try.func94, Try.ntmps94
  go_wp2_with fail
  go_loopw [7, 8] (fun ov av wr => ∃ (k : Nat) (acc : List UInt8), ov = .string ⟨acc.toArray⟩ ∧ av = .int .i64 k ∧ k ≤ s.size ∧ Hid (V = joinU acc k (undoL true (s.data.toList.drop k))) ∧ acc.length ≤ 4 * k ∧ Below w.heap.size w wr) (fun _ av _ => s.size - (intOf av).toNat)
  case atStart =>
    refine ⟨0, [], rfl, rfl, Nat.zero_le _, ?_, by simp, Below.refl _ _⟩
    show _ = _
    rw [hV.out, List.drop_zero, joinU_nil _ (undoL_shape _ _)]
  case round =>
    obtain ⟨k, acc, rfl, rfl, hks, hjo, hal, hbel⟩ := hrel
    have hwr := hbel.size
    have HL := Lib.hid (size_toList s)
    by_cases hend : k < s.size
    · have hx : Hid ((s.extract k s.size).data.toList = s.data.toList.drop k) := Lib.extract_to_end s k
      have hxs : (s.extract k s.size).size = s.size - k := by simp
      have hnn : Hid (s.data.toList.drop k ≠ []) := by
        intro h
        have := congrArg List.length h
        rw [List.length_drop, HL.out] at this
        simp at this; omega
      have hszl : (s.extract k s.size).size ≤ 1000000000 := by omega
      have HXS := Lib.hid hxs
      clear hxs
      obtain ⟨c, n, hq⟩ : ∃ c n, Hid (nextL (s.extract k s.size).data.toList = (c, n)) := ⟨_, _, rfl⟩
      have hle := nextL_le (s.extract k s.size).data.toList
      rw [hq.out, hx.out, List.length_drop, HL.out] at hle
      obtain ⟨hn1, hn4⟩ := hle
      simp only at hn1 hn4
      by_cases hn : n = 0
      · have hv : Hid (V = ([], k, 21)) := by
          have := stepL_no (v := true) hq.out hn
          rw [hx.out] at this
          show _ = _
          rw [hjo.out, undoL_bad _ _ hnn.out _ this, joinU_bad _ _ _ (by decide)]
        have hn0 : ((n : Int) == 0) = true := by simp [hn]
        have hnz : n ≤ 0 := by omega
        clear hn
        go_wp2_with (go_at_call 112; refine (RNext_as (s.extract k s.size) wr (by unfold maxLen; omega) c n hq).mono ?_; rintro e w2 ⟨rfl, hb2⟩)
        go_ret3
        exact ⟨by rw [hv.out]; rfl, hbel.trans (hb2.mono (by omega))⟩
      have hnp : 0 < n := by omega
      have hn0 : ((n : Int) == 0) = false := by simp [hn]
      clear hn
      by_cases hc60 : c = 60
      · subst hc60
        have hv : Hid (V = ([], k, 20)) := by
          have := stepL_lt (v := true) hq.out hnp (.inl rfl)
          rw [hx.out] at this
          show _ = _
          rw [hjo.out, undoL_bad _ _ hnn.out _ this, joinU_bad _ _ _ (by decide)]
        go_wp2_with (go_at_call 112; refine (RNext_as (s.extract k s.size) wr (by unfold maxLen; omega) 60 n hq).mono ?_; rintro e w2 ⟨rfl, hb2⟩)
        go_ret3
        exact ⟨by rw [hv.out]; rfl, hbel.trans (hb2.mono (by omega))⟩
      by_cases hc62 : c = 62
      · subst hc62
        have hv : Hid (V = ([], k, 20)) := by
          have := stepL_lt (v := true) hq.out hnp (.inr rfl)
          rw [hx.out] at this
          show _ = _
          rw [hjo.out, undoL_bad _ _ hnn.out _ this, joinU_bad _ _ _ (by decide)]
        go_wp2_with (go_at_call 112; refine (RNext_as (s.extract k s.size) wr (by unfold maxLen; omega) 62 n hq).mono ?_; rintro e w2 ⟨rfl, hb2⟩)
        go_ret3
        exact ⟨by rw [hv.out]; rfl, hbel.trans (hb2.mono (by omega))⟩
      by_cases hc13 : c = 13
      · subst hc13
        have hv : Hid (V = ([], k, 21)) := by
          have := stepL_13 (v := true) hq.out (.inl rfl)
          rw [hx.out] at this
          show _ = _
          rw [hjo.out, undoL_bad _ _ hnn.out _ this, joinU_bad _ _ _ (by decide)]
        go_wp2_with (go_at_call 112; refine (RNext_as (s.extract k s.size) wr (by unfold maxLen; omega) 13 n hq).mono ?_; rintro e w2 ⟨rfl, hb2⟩)
        go_ret3
        exact ⟨by rw [hv.out]; rfl, hbel.trans (hb2.mono (by omega))⟩
      by_cases hc34 : c = 34
      · subst hc34
        have hv : Hid (V = ([], k, 21)) := by
          have := stepL_13 (v := true) hq.out (.inr ⟨rfl, .inl rfl⟩)
          rw [hx.out] at this
          show _ = _
          rw [hjo.out, undoL_bad _ _ hnn.out _ this, joinU_bad _ _ _ (by decide)]
        go_wp2_with (go_at_call 112; refine (RNext_as (s.extract k s.size) wr (by unfold maxLen; omega) 34 n hq).mono ?_; rintro e w2 ⟨rfl, hb2⟩)
        go_ret3
        exact ⟨by rw [hv.out]; rfl, hbel.trans (hb2.mono (by omega))⟩
      by_cases hc9 : c = 9
      · subst hc9
        have hv : Hid (V = ([], k, 21)) := by
          have := stepL_13 (v := true) hq.out (.inr ⟨rfl, .inr (.inl rfl)⟩)
          rw [hx.out] at this
          show _ = _
          rw [hjo.out, undoL_bad _ _ hnn.out _ this, joinU_bad _ _ _ (by decide)]
        go_wp2_with (go_at_call 112; refine (RNext_as (s.extract k s.size) wr (by unfold maxLen; omega) 9 n hq).mono ?_; rintro e w2 ⟨rfl, hb2⟩)
        go_ret3
        exact ⟨by rw [hv.out]; rfl, hbel.trans (hb2.mono (by omega))⟩
      by_cases hc10 : c = 10
      · subst hc10
        have hv : Hid (V = ([], k, 21)) := by
          have := stepL_13 (v := true) hq.out (.inr ⟨rfl, .inr (.inr rfl)⟩)
          rw [hx.out] at this
          show _ = _
          rw [hjo.out, undoL_bad _ _ hnn.out _ this, joinU_bad _ _ _ (by decide)]
        go_wp2_with (go_at_call 112; refine (RNext_as (s.extract k s.size) wr (by unfold maxLen; omega) 10 n hq).mono ?_; rintro e w2 ⟨rfl, hb2⟩)
        go_ret3
        exact ⟨by rw [hv.out]; rfl, hbel.trans (hb2.mono (by omega))⟩
      by_cases hc38 : c = 38
      · subst hc38
        obtain ⟨c', n', hr⟩ : ∃ c' n', Hid (refL (s.extract k s.size).data.toList = (c', n')) := ⟨_, _, rfl⟩
        have hrl := refL_le (s.extract k s.size).data.toList
        rw [hr.out, hx.out, List.length_drop, HL.out] at hrl
        simp only at hrl
        have hrb := refL_bd (s.extract k s.size).data.toList
        rw [hr.out] at hrb
        obtain ⟨hrb0, hrb1⟩ := hrb
        simp only at hrb0 hrb1
        have hstep := stepL_ref (v := true) hq.out hnp hr.out
        rw [hx.out] at hstep
        by_cases hn' : n' = 0
        · rw [if_pos hn'] at hstep
          have hv : Hid (V = ([], k, 20)) := by
            show _ = _
            rw [hjo.out, undoL_bad _ _ hnn.out _ hstep, joinU_bad _ _ _ (by decide)]
          have hn0' : ((n' : Int) == 0) = true := by simp [hn']
          clear hn' hstep
          go_wp2_with (first | (go_at_call 112; refine (RNext_as (s.extract k s.size) wr (by unfold maxLen; omega) 38 n hq).mono ?_; rintro e w2 ⟨rfl, hb2⟩) | (go_at_call 113; refine (rrefer_as (s.extract k s.size) _ (by unfold maxLen; omega) c' n' hr).mono ?_; rintro e w3 ⟨rfl, hb3⟩) | (go_at_call 114; refine (RPut_any _ _).mono ?_; rintro e w4 ⟨rfl, hb4⟩))
          go_ret3
          have hz2 := hb2.size
          exact ⟨by rw [hv.out]; rfl, (hbel.trans (hb2.mono (by omega))).trans (hb3.mono (by omega))⟩
        rw [if_neg hn'] at hstep
        have hn0' : ((n' : Int) == 0) = false := by simp [hn']
        have hnp' : 0 < n' := by omega
        clear hn'
        by_cases hch : charB c' = false
        · rw [if_pos hch] at hstep
          have hv : Hid (V = ([], k, 21)) := by
            show _ = _
            rw [hjo.out, undoL_bad _ _ hnn.out _ hstep, joinU_bad _ _ _ (by decide)]
          clear hstep
          go_wp2_with (first | (go_at_call 112; refine (RNext_as (s.extract k s.size) wr (by unfold maxLen; omega) 38 n hq).mono ?_; rintro e w2 ⟨rfl, hb2⟩) | (go_at_call 113; refine (rrefer_as (s.extract k s.size) _ (by unfold maxLen; omega) c' n' hr).mono ?_; rintro e w3 ⟨rfl, hb3⟩) | (go_at_call 114; refine (RPut_any _ _).mono ?_; rintro e w4 ⟨rfl, hb4⟩))
          go_ret3
          have hz2 := hb2.size; have hz3 := hb3.size
          exact ⟨by rw [hv.out]; rfl, ((hbel.trans (hb2.mono (by omega))).trans (hb3.mono (by omega))).trans (hb4.mono (by omega))⟩
        · rw [if_neg hch] at hstep
          have hch' : charB c' = true := by simpa using hch
          have HS := Lib.hid hstep
          have hpl := putF_len c'
          clear hstep hch
          go_wp2_with (first | (go_at_call 112; refine (RNext_as (s.extract k s.size) wr (by unfold maxLen; omega) 38 n hq).mono ?_; rintro e w2 ⟨rfl, hb2⟩) | (go_at_call 113; refine (rrefer_as (s.extract k s.size) _ (by unfold maxLen; omega) c' n' hr).mono ?_; rintro e w3 ⟨rfl, hb3⟩) | (go_at_call 114; refine (RPut_any _ _).mono ?_; rintro e w4 ⟨rfl, hb4⟩))
          have hz2 := hb2.size; have hz4 := hb4.size; have hz3 := hb3.size
          go_roundw
          case rel =>
            refine ⟨k + n', acc ++ putF c', congrArg Value.string (str_app _ _), by go_num, by omega, ?_, ?_, ((hbel.trans (hb2.mono (by omega))).trans (hb3.mono (by omega))).trans (hb4.mono (by omega))⟩
            · show _ = _
              rw [hjo.out, undoL_step _ _ hnn.out _ _ HS.out, joinU_join, List.drop_drop]
            · rw [List.length_append]; omega
          case measure => simp [intOf]; omega
      have hstep := stepL_put (v := true) hq.out hnp (by omega) (by simp; omega) hc38
      rw [hx.out] at hstep
      have hb60 : (c == 60) = false := by simp; omega
      have hb62 : (c == 62) = false := by simp; omega
      have hb13 : (c == 13) = false := by simp; omega
      have hb34 : (c == 34) = false := by simp; omega
      have hb9 : (c == 9) = false := by simp; omega
      have hb10 : (c == 10) = false := by simp; omega
      have hb38 : (c == 38) = false := by simp; omega
      clear hc60 hc62 hc13 hc34 hc9 hc10 hc38
      by_cases hch : charB c = false
      · rw [if_pos hch] at hstep
        have hv : Hid (V = ([], k, 21)) := by
          show _ = _
          rw [hjo.out, undoL_bad _ _ hnn.out _ hstep, joinU_bad _ _ _ (by decide)]
        clear hstep
        go_wp2_with (first | (go_at_call 112; refine (RNext_as (s.extract k s.size) wr (by unfold maxLen; omega) c n hq).mono ?_; rintro e w2 ⟨rfl, hb2⟩) | (go_at_call 114; refine (RPut_any _ _).mono ?_; rintro e w4 ⟨rfl, hb4⟩))
        go_ret3
        have hz2 := hb2.size
        exact ⟨by rw [hv.out]; rfl, (hbel.trans (hb2.mono (by omega))).trans (hb4.mono (by omega))⟩
      · rw [if_neg hch] at hstep
        have hch' : charB c = true := by simpa using hch
        have HS := Lib.hid hstep
        have hpl := putF_len c
        clear hstep hch
        go_wp2_with (first | (go_at_call 112; refine (RNext_as (s.extract k s.size) wr (by unfold maxLen; omega) c n hq).mono ?_; rintro e w2 ⟨rfl, hb2⟩) | (go_at_call 114; refine (RPut_any _ _).mono ?_; rintro e w4 ⟨rfl, hb4⟩))
        have hz2 := hb2.size; have hz4 := hb4.size; skip
        go_roundw
        case rel =>
          refine ⟨k + n, acc ++ putF c, congrArg Value.string (str_app _ _), by go_num, by omega, ?_, ?_, (hbel.trans (hb2.mono (by omega))).trans (hb4.mono (by omega))⟩
          · show _ = _
            rw [hjo.out, undoL_step _ _ hnn.out _ _ HS.out, joinU_join, List.drop_drop]
          · rw [List.length_append]; omega
        case measure => simp [intOf]; omega
    · have hk : k = s.size := by omega
      have hv : Hid (V = (acc, s.size, 0)) := by
        have : s.data.toList.drop k = [] := List.drop_eq_nil_of_le (by rw [HL.out]; omega)
        show _ = _
        rw [hjo.out, this, undoL_nil, hk]; simp [joinU]
      subst hk
      go_wp2_with fail
      go_ret3
      exact ⟨by rw [hv.out]; rfl, hbel⟩

set_option maxRecDepth 100000 in
set_option maxHeartbeats 4000000 in
theorem RUndo_false (s : ByteArray) (w : World) (hs : s.size ≤ 1000000000) (V : List UInt8 × Nat × Int) (hV : Hid (V = undoL false s.data.toList)) :
    Calls Try.prog 94 #[.string s, .bool false] w (Ret w (.tuple #[.string ⟨V.1.toArray⟩, .int .i64 (V.2.1 : Nat), .int .i64 V.2.2])) := by
  go_enter Try.func94, Try.ntmps94
  go_wp2_with fail
  go_loopw [7, 8] (fun ov av wr => ∃ (k : Nat) (acc : List UInt8), ov = .string ⟨acc.toArray⟩ ∧ av = .int .i64 k ∧ k ≤ s.size ∧ Hid (V = joinU acc k (undoL false (s.data.toList.drop k))) ∧ acc.length ≤ 4 * k ∧ Below w.heap.size w wr) (fun _ av _ => s.size - (intOf av).toNat)
  case atStart =>
    refine ⟨0, [], rfl, rfl, Nat.zero_le _, ?_, by simp, Below.refl _ _⟩
    show _ = _
    rw [hV.out, List.drop_zero, joinU_nil _ (undoL_shape _ _)]
  case round =>
    obtain ⟨k, acc, rfl, rfl, hks, hjo, hal, hbel⟩ := hrel
    have hwr := hbel.size
    have HL := Lib.hid (size_toList s)
    by_cases hend : k < s.size
    · have hx : Hid ((s.extract k s.size).data.toList = s.data.toList.drop k) := Lib.extract_to_end s k
      have hxs : (s.extract k s.size).size = s.size - k := by simp
      have hnn : Hid (s.data.toList.drop k ≠ []) := by
        intro h
        have := congrArg List.length h
        rw [List.length_drop, HL.out] at this
        simp at this; omega
      have hszl : (s.extract k s.size).size ≤ 1000000000 := by omega
      have HXS := Lib.hid hxs
      clear hxs
      obtain ⟨c, n, hq⟩ : ∃ c n, Hid (nextL (s.extract k s.size).data.toList = (c, n)) := ⟨_, _, rfl⟩
      have hle := nextL_le (s.extract k s.size).data.toList
      rw [hq.out, hx.out, List.length_drop, HL.out] at hle
      obtain ⟨hn1, hn4⟩ := hle
      simp only at hn1 hn4
      by_cases hn : n = 0
      · have hv : Hid (V = ([], k, 21)) := by
          have := stepL_no (v := false) hq.out hn
          rw [hx.out] at this
          show _ = _
          rw [hjo.out, undoL_bad _ _ hnn.out _ this, joinU_bad _ _ _ (by decide)]
        have hn0 : ((n : Int) == 0) = true := by simp [hn]
        have hnz : n ≤ 0 := by omega
        clear hn
        go_wp2_with (go_at_call 112; refine (RNext_as (s.extract k s.size) wr (by unfold maxLen; omega) c n hq).mono ?_; rintro e w2 ⟨rfl, hb2⟩)
        go_ret3
        exact ⟨by rw [hv.out]; rfl, hbel.trans (hb2.mono (by omega))⟩
      have hnp : 0 < n := by omega
      have hn0 : ((n : Int) == 0) = false := by simp [hn]
      clear hn
      by_cases hc60 : c = 60
      · subst hc60
        have hv : Hid (V = ([], k, 20)) := by
          have := stepL_lt (v := false) hq.out hnp (.inl rfl)
          rw [hx.out] at this
          show _ = _
          rw [hjo.out, undoL_bad _ _ hnn.out _ this, joinU_bad _ _ _ (by decide)]
        go_wp2_with (go_at_call 112; refine (RNext_as (s.extract k s.size) wr (by unfold maxLen; omega) 60 n hq).mono ?_; rintro e w2 ⟨rfl, hb2⟩)
        go_ret3
        exact ⟨by rw [hv.out]; rfl, hbel.trans (hb2.mono (by omega))⟩
      by_cases hc62 : c = 62
      · subst hc62
        have hv : Hid (V = ([], k, 20)) := by
          have := stepL_lt (v := false) hq.out hnp (.inr rfl)
          rw [hx.out] at this
          show _ = _
          rw [hjo.out, undoL_bad _ _ hnn.out _ this, joinU_bad _ _ _ (by decide)]
        go_wp2_with (go_at_call 112; refine (RNext_as (s.extract k s.size) wr (by unfold maxLen; omega) 62 n hq).mono ?_; rintro e w2 ⟨rfl, hb2⟩)
        go_ret3
        exact ⟨by rw [hv.out]; rfl, hbel.trans (hb2.mono (by omega))⟩
      by_cases hc13 : c = 13
      · subst hc13
        have hv : Hid (V = ([], k, 21)) := by
          have := stepL_13 (v := false) hq.out (.inl rfl)
          rw [hx.out] at this
          show _ = _
          rw [hjo.out, undoL_bad _ _ hnn.out _ this, joinU_bad _ _ _ (by decide)]
        go_wp2_with (go_at_call 112; refine (RNext_as (s.extract k s.size) wr (by unfold maxLen; omega) 13 n hq).mono ?_; rintro e w2 ⟨rfl, hb2⟩)
        go_ret3
        exact ⟨by rw [hv.out]; rfl, hbel.trans (hb2.mono (by omega))⟩
      by_cases hc38 : c = 38
      · subst hc38
        obtain ⟨c', n', hr⟩ : ∃ c' n', Hid (refL (s.extract k s.size).data.toList = (c', n')) := ⟨_, _, rfl⟩
        have hrl := refL_le (s.extract k s.size).data.toList
        rw [hr.out, hx.out, List.length_drop, HL.out] at hrl
        simp only at hrl
        have hrb := refL_bd (s.extract k s.size).data.toList
        rw [hr.out] at hrb
        obtain ⟨hrb0, hrb1⟩ := hrb
        simp only at hrb0 hrb1
        have hstep := stepL_ref (v := false) hq.out hnp hr.out
        rw [hx.out] at hstep
        by_cases hn' : n' = 0
        · rw [if_pos hn'] at hstep
          have hv : Hid (V = ([], k, 20)) := by
            show _ = _
            rw [hjo.out, undoL_bad _ _ hnn.out _ hstep, joinU_bad _ _ _ (by decide)]
          have hn0' : ((n' : Int) == 0) = true := by simp [hn']
          clear hn' hstep
          go_wp2_with (first | (go_at_call 112; refine (RNext_as (s.extract k s.size) wr (by unfold maxLen; omega) 38 n hq).mono ?_; rintro e w2 ⟨rfl, hb2⟩) | (go_at_call 113; refine (rrefer_as (s.extract k s.size) _ (by unfold maxLen; omega) c' n' hr).mono ?_; rintro e w3 ⟨rfl, hb3⟩) | (go_at_call 114; refine (RPut_any _ _).mono ?_; rintro e w4 ⟨rfl, hb4⟩))
          go_ret3
          have hz2 := hb2.size
          exact ⟨by rw [hv.out]; rfl, (hbel.trans (hb2.mono (by omega))).trans (hb3.mono (by omega))⟩
        rw [if_neg hn'] at hstep
        have hn0' : ((n' : Int) == 0) = false := by simp [hn']
        have hnp' : 0 < n' := by omega
        clear hn'
        by_cases hch : charB c' = false
        · rw [if_pos hch] at hstep
          have hv : Hid (V = ([], k, 21)) := by
            show _ = _
            rw [hjo.out, undoL_bad _ _ hnn.out _ hstep, joinU_bad _ _ _ (by decide)]
          clear hstep
          go_wp2_with (first | (go_at_call 112; refine (RNext_as (s.extract k s.size) wr (by unfold maxLen; omega) 38 n hq).mono ?_; rintro e w2 ⟨rfl, hb2⟩) | (go_at_call 113; refine (rrefer_as (s.extract k s.size) _ (by unfold maxLen; omega) c' n' hr).mono ?_; rintro e w3 ⟨rfl, hb3⟩) | (go_at_call 114; refine (RPut_any _ _).mono ?_; rintro e w4 ⟨rfl, hb4⟩))
          go_ret3
          have hz2 := hb2.size; have hz3 := hb3.size
          exact ⟨by rw [hv.out]; rfl, ((hbel.trans (hb2.mono (by omega))).trans (hb3.mono (by omega))).trans (hb4.mono (by omega))⟩
        · rw [if_neg hch] at hstep
          have hch' : charB c' = true := by simpa using hch
          have HS := Lib.hid hstep
          have hpl := putF_len c'
          clear hstep hch
          go_wp2_with (first | (go_at_call 112; refine (RNext_as (s.extract k s.size) wr (by unfold maxLen; omega) 38 n hq).mono ?_; rintro e w2 ⟨rfl, hb2⟩) | (go_at_call 113; refine (rrefer_as (s.extract k s.size) _ (by unfold maxLen; omega) c' n' hr).mono ?_; rintro e w3 ⟨rfl, hb3⟩) | (go_at_call 114; refine (RPut_any _ _).mono ?_; rintro e w4 ⟨rfl, hb4⟩))
          have hz2 := hb2.size; have hz4 := hb4.size; have hz3 := hb3.size
          go_roundw
          case rel =>
            refine ⟨k + n', acc ++ putF c', congrArg Value.string (str_app _ _), by go_num, by omega, ?_, ?_, ((hbel.trans (hb2.mono (by omega))).trans (hb3.mono (by omega))).trans (hb4.mono (by omega))⟩
            · show _ = _
              rw [hjo.out, undoL_step _ _ hnn.out _ _ HS.out, joinU_join, List.drop_drop]
            · rw [List.length_append]; omega
          case measure => simp [intOf]; omega
      have hstep := stepL_put (v := false) hq.out hnp (by omega) (by simp; omega) hc38
      rw [hx.out] at hstep
      have hb60 : (c == 60) = false := by simp; omega
      have hb62 : (c == 62) = false := by simp; omega
      have hb13 : (c == 13) = false := by simp; omega
      have hb38 : (c == 38) = false := by simp; omega
      clear hc60 hc62 hc13 hc38
      by_cases hch : charB c = false
      · rw [if_pos hch] at hstep
        have hv : Hid (V = ([], k, 21)) := by
          show _ = _
          rw [hjo.out, undoL_bad _ _ hnn.out _ hstep, joinU_bad _ _ _ (by decide)]
        clear hstep
        go_wp2_with (first | (go_at_call 112; refine (RNext_as (s.extract k s.size) wr (by unfold maxLen; omega) c n hq).mono ?_; rintro e w2 ⟨rfl, hb2⟩) | (go_at_call 114; refine (RPut_any _ _).mono ?_; rintro e w4 ⟨rfl, hb4⟩))
        go_ret3
        have hz2 := hb2.size
        exact ⟨by rw [hv.out]; rfl, (hbel.trans (hb2.mono (by omega))).trans (hb4.mono (by omega))⟩
      · rw [if_neg hch] at hstep
        have hch' : charB c = true := by simpa using hch
        have HS := Lib.hid hstep
        have hpl := putF_len c
        clear hstep hch
        go_wp2_with (first | (go_at_call 112; refine (RNext_as (s.extract k s.size) wr (by unfold maxLen; omega) c n hq).mono ?_; rintro e w2 ⟨rfl, hb2⟩) | (go_at_call 114; refine (RPut_any _ _).mono ?_; rintro e w4 ⟨rfl, hb4⟩))
        have hz2 := hb2.size; have hz4 := hb4.size; skip
        go_roundw
        case rel =>
          refine ⟨k + n, acc ++ putF c, congrArg Value.string (str_app _ _), by go_num, by omega, ?_, ?_, (hbel.trans (hb2.mono (by omega))).trans (hb4.mono (by omega))⟩
          · show _ = _
            rw [hjo.out, undoL_step _ _ hnn.out _ _ HS.out, joinU_join, List.drop_drop]
          · rw [List.length_append]; omega
        case measure => simp [intOf]; omega
    · have hk : k = s.size := by omega
      have hv : Hid (V = (acc, s.size, 0)) := by
        have : s.data.toList.drop k = [] := List.drop_eq_nil_of_le (by rw [HL.out]; omega)
        show _ = _
        rw [hjo.out, this, undoL_nil, hk]; simp [joinU]
      subst hk
      go_wp2_with fail
      go_ret3
      exact ⟨by rw [hv.out]; rfl, hbel⟩

theorem RUndo_any (s : ByteArray) (v : Bool) (w : World) (hs : s.size ≤ 1000000000) :
    Calls Try.prog 94 #[.string s, .bool v] w (Ret w (.tuple #[.string ⟨(undoL v s.data.toList).1.toArray⟩, .int .i64 ((undoL v s.data.toList).2.1 : Nat), .int .i64 (undoL v s.data.toList).2.2])) := by
  cases v
  · exact RUndo_false s w hs _ rfl
  · exact RUndo_true s w hs _ rfl
end Go.Proofs.Ythifddkmbjnncaa

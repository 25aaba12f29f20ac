/-
  The walks of the document's begins, number and reference.
-/
import Derived.Test.YthfdlkafpeadiaaRNext
import Derived.Test.YthfdlkafpeadiaaRefPlain
import Derived.Deep.QuietTactic
import Derived.BigQuiet
namespace Go.Proofs.Ythfdlkafpeadiaa
open Go.RowKit

set_option maxRecDepth 100000 in
set_option maxHeartbeats 400000 in
theorem begins_any (s : ByteArray) (p : List UInt8) (w : World) (_hs : s.size ≤ maxLen) (_hp : p.length ≤ 1000) :
    Calls Try.prog 36 #[.string s, .string ⟨p.toArray⟩] w fun e w' => e = .returned (.bool (pre p s.data.toList)) ∧ w = w' := by
  unfold maxLen at _hs
  have hl := Lib.hid (size_toList s)
  by_cases hc : p.length ≤ s.size
  · have hx : Hid ((s.extract 0 p.length).toList = s.data.toList.take p.length) := by
      show _ = _; rw [ByteArray.toList_eq, Lib.extract_data]; rfl
    have hpt : Hid (∀ (q : List UInt8), (⟨q.toArray⟩ : ByteArray).toList = q) := fun q => by rw [ByteArray.toList_eq]
    by_cases hq : ((s.extract 0 p.length).toList == p) = true
    · have hv : Hid (pre p s.data.toList = true) := by
        show _ = _; unfold pre; rw [← hx.out]; exact hq
      go_enter Try.func36, Try.ntmps36
      go_wp2_with fail
      go_ret
      exact ⟨by rw [hv.out]; rfl, rfl⟩
    · have hq' : ((s.extract 0 p.length).toList == p) = false := by simpa using hq
      clear hq
      have hv : Hid (pre p s.data.toList = false) := by
        show _ = _; unfold pre; rw [← hx.out]; exact hq'
      go_enter Try.func36, Try.ntmps36
      go_wp2_with fail
      go_ret
      exact ⟨by rw [hv.out]; rfl, rfl⟩
  · have hv : Hid (pre p s.data.toList = false) := by
      cases hh : pre p s.data.toList with
      | false => rfl
      | true => have := pre_len hh; have := hl.out; omega
    have hc' : s.size < p.length := by omega
    clear hc
    go_enter Try.func36, Try.ntmps36
    go_wp2_with fail
    go_ret
    exact ⟨by rw [hv.out]; rfl, rfl⟩

set_option maxRecDepth 100000 in
set_option maxHeartbeats 2000000 in
theorem number_10 (s : ByteArray) (w : World) (hs : s.size ≤ 12) (V : Int) (hV : Hid (V = numR 10 s.data.toList)) :
    Calls Try.prog 37 #[.string s, .int .i64 10] w fun e w' => e = .returned (.int .i64 V) ∧ w = w' := by
  have HL := Lib.hid (size_toList s)
  go_enter Try.func37, Try.ntmps37
  go_wp2_with fail
  go_loop [5, 6] (fun c i => ∃ (k : Nat) (cv : Int), k ≤ s.size ∧ i = .int .i64 k ∧ c = .int .i64 cv ∧ 0 ≤ cv ∧ Hid (cv < 16 ^ k) ∧ Hid (digs 10 (s.data.toList.take k) = true) ∧ Hid (cv = numF 10 0 (s.data.toList.take k))) (fun _ i => s.size - (intOf i).toNat)
  case atStart => exact ⟨0, 0, Nat.zero_le _, rfl, rfl, by omega, (by decide : (0 : Int) < 16 ^ 0), rfl, rfl⟩
  case round =>
    obtain ⟨k, cv, hk, rfl, rfl, hc0, hc1, hdg, hnf⟩ := hrel
    have hcv : cv < 281474976710656 := by
      have := hc1.out
      have : (16 : Int) ^ k ≤ 16 ^ 12 := by
        rcases (by omega : k = 0 ∨ k = 1 ∨ k = 2 ∨ k = 3 ∨ k = 4 ∨ k = 5 ∨ k = 6 ∨ k = 7 ∨ k = 8 ∨ k = 9 ∨ k = 10 ∨ k = 11 ∨ k = 12) with rfl | rfl | rfl | rfl | rfl | rfl | rfl | rfl | rfl | rfl | rfl | rfl | rfl <;> decide
      have e : (16 : Int) ^ 12 = 281474976710656 := by decide
      omega
    by_cases hlt : k < s.size
    · obtain ⟨x, HX⟩ : ∃ x, Hid (s.data.toList[k]? = some x) := ⟨s.data.toList[k]'(by have := HL.out; omega), List.getElem?_eq_getElem _⟩
      have hsx : s[k] = x := getk_of s k x HX.out hlt
      have hx1 : (x.toNat : Int) < 256 := by have := x.toNat_lt; omega
      have htk : Hid (s.data.toList.take (k + 1) = s.data.toList.take k ++ [x]) := by
        have := HX.out
        show _ = _
        rw [List.take_add_one, this]; rfl
      have hmem : Hid (x ∈ s.data.toList) := List.mem_of_getElem? HX.out
      rcases (by omega : (48 ≤ (x.toNat : Int) ∧ (x.toNat : Int) ≤ 57) ∨ (x.toNat : Int) < 48 ∨ 57 < (x.toNat : Int)) with ⟨hA, hA'⟩ | hB | hC
      · have hd : Hid (digitV 10 x.toNat = (x.toNat : Int) - 48) := by
          show _ = _; unfold digitV; repeat (first | rw [if_pos (by omega)] | rw [if_neg (by omega)])
        have hpw : Hid (cv * 10 + ((x.toNat : Int) - 48) < 16 ^ (k + 1)) := by
          have := hc1.out
          show _ < _
          rw [Int.pow_succ]; omega
        go_wp2_with fail
        go_round
        case rel =>
          refine ⟨k + 1, cv * 10 + ((x.toNat : Int) - 48), by omega, by go_num, rfl, by omega, hpw, ?_, ?_⟩
          · show _ = _
            rw [htk.out]
            unfold digs
            rw [List.all_append]
            have := hdg.out
            unfold digs at this
            rw [this]; simp [hd.out]; omega
          · show _ = _
            rw [htk.out, numF, List.foldl_append]
            show _ = numF 10 0 (s.data.toList.take k) * 10 + digitV 10 x.toNat
            rw [← hnf.out, hd.out]
        case measure => simp [intOf]; omega
      · have hd : Hid (digitV 10 x.toNat = -1) := by
          show _ = _; unfold digitV; repeat (first | rw [if_pos (by omega)] | rw [if_neg (by omega)])
        have hv : Hid (V = -1) := by
          show _ = _
          rw [hV.out]
          unfold numR
          rw [if_neg]
          rintro ⟨hall, _⟩
          unfold digs at hall
          rw [List.all_eq_true] at hall
          have := of_decide_eq_true (hall x hmem.out)
          rw [hd.out] at this
          omega
        go_wp2_with fail
        go_ret
        exact ⟨by rw [hv.out]; rfl, rfl⟩
      · have hd : Hid (digitV 10 x.toNat = -1) := by
          show _ = _; unfold digitV; repeat (first | rw [if_pos (by omega)] | rw [if_neg (by omega)])
        have hv : Hid (V = -1) := by
          show _ = _
          rw [hV.out]
          unfold numR
          rw [if_neg]
          rintro ⟨hall, _⟩
          unfold digs at hall
          rw [List.all_eq_true] at hall
          have := of_decide_eq_true (hall x hmem.out)
          rw [hd.out] at this
          omega
        go_wp2_with fail
        go_ret
        exact ⟨by rw [hv.out]; rfl, rfl⟩
    · have hk' : k = s.size := by omega
      have hfull : s.data.toList.take k = s.data.toList := List.take_of_length_le (by have := HL.out; omega)
      have hdg' : digs 10 s.data.toList = true := by have := hdg.out; rwa [hfull] at this
      have hnf' : cv = numF 10 0 s.data.toList := by have := hnf.out; rwa [hfull] at this
      have HD := Lib.hid hdg'; have HN := Lib.hid hnf'
      clear hfull hdg' hnf'
      by_cases hr : 1 ≤ s.size ∧ s.size ≤ 7
      · obtain ⟨hr1, hr7⟩ := hr
        have hv : Hid (V = cv) := by
          have := HL.out
          show _ = _
          rw [hV.out, HN.out]; unfold numR; rw [if_pos ⟨HD.out, by omega, by omega⟩]
        clear hk'
        go_wp2_with fail
        go_ret
        exact ⟨by rw [hv.out]; rfl, rfl⟩
      · have hv : Hid (V = -1) := by
          have := HL.out
          show _ = _
          rw [hV.out]; unfold numR; rw [if_neg (fun h => hr ⟨by omega, by omega⟩)]
        clear hk'
        rcases (by omega : s.size < 1 ∨ (1 ≤ s.size ∧ 7 < s.size)) with h1 | ⟨h1, h7⟩
        · clear hr
          go_wp2_with fail
          go_ret
          exact ⟨by rw [hv.out]; rfl, rfl⟩
        · clear hr
          go_wp2_with fail
          go_ret
          exact ⟨by rw [hv.out]; rfl, rfl⟩

set_option maxRecDepth 100000 in
set_option maxHeartbeats 2000000 in
theorem number_16 (s : ByteArray) (w : World) (hs : s.size ≤ 12) (V : Int) (hV : Hid (V = numR 16 s.data.toList)) :
    Calls Try.prog 37 #[.string s, .int .i64 16] w fun e w' => e = .returned (.int .i64 V) ∧ w = w' := by
  have HL := Lib.hid (size_toList s)
  go_enter Try.func37, Try.ntmps37
  go_wp2_with fail
  go_loop [5, 6] (fun c i => ∃ (k : Nat) (cv : Int), k ≤ s.size ∧ i = .int .i64 k ∧ c = .int .i64 cv ∧ 0 ≤ cv ∧ Hid (cv < 16 ^ k) ∧ Hid (digs 16 (s.data.toList.take k) = true) ∧ Hid (cv = numF 16 0 (s.data.toList.take k))) (fun _ i => s.size - (intOf i).toNat)
  case atStart => exact ⟨0, 0, Nat.zero_le _, rfl, rfl, by omega, (by decide : (0 : Int) < 16 ^ 0), rfl, rfl⟩
  case round =>
    obtain ⟨k, cv, hk, rfl, rfl, hc0, hc1, hdg, hnf⟩ := hrel
    have hcv : cv < 281474976710656 := by
      have := hc1.out
      have : (16 : Int) ^ k ≤ 16 ^ 12 := by
        rcases (by omega : k = 0 ∨ k = 1 ∨ k = 2 ∨ k = 3 ∨ k = 4 ∨ k = 5 ∨ k = 6 ∨ k = 7 ∨ k = 8 ∨ k = 9 ∨ k = 10 ∨ k = 11 ∨ k = 12) with rfl | rfl | rfl | rfl | rfl | rfl | rfl | rfl | rfl | rfl | rfl | rfl | rfl <;> decide
      have e : (16 : Int) ^ 12 = 281474976710656 := by decide
      omega
    by_cases hlt : k < s.size
    · obtain ⟨x, HX⟩ : ∃ x, Hid (s.data.toList[k]? = some x) := ⟨s.data.toList[k]'(by have := HL.out; omega), List.getElem?_eq_getElem _⟩
      have hsx : s[k] = x := getk_of s k x HX.out hlt
      have hx1 : (x.toNat : Int) < 256 := by have := x.toNat_lt; omega
      have htk : Hid (s.data.toList.take (k + 1) = s.data.toList.take k ++ [x]) := by
        have := HX.out
        show _ = _
        rw [List.take_add_one, this]; rfl
      have hmem : Hid (x ∈ s.data.toList) := List.mem_of_getElem? HX.out
      rcases (by omega : (48 ≤ (x.toNat : Int) ∧ (x.toNat : Int) ≤ 57) ∨ (97 ≤ (x.toNat : Int) ∧ (x.toNat : Int) ≤ 102) ∨ (65 ≤ (x.toNat : Int) ∧ (x.toNat : Int) ≤ 70) ∨ (x.toNat : Int) < 48 ∨ (58 ≤ (x.toNat : Int) ∧ (x.toNat : Int) ≤ 64) ∨ (71 ≤ (x.toNat : Int) ∧ (x.toNat : Int) ≤ 96) ∨ 102 < (x.toNat : Int)) with ⟨hA, hA'⟩ | ⟨hA, hA'⟩ | ⟨hA, hA'⟩ | hB | ⟨hB, hB'⟩ | ⟨hB, hB'⟩ | hB
      · have hd : Hid (digitV 16 x.toNat = (x.toNat : Int) - 48) := by
          show _ = _; unfold digitV; repeat (first | rw [if_pos (by omega)] | rw [if_neg (by omega)])
        have hpw : Hid (cv * 16 + ((x.toNat : Int) - 48) < 16 ^ (k + 1)) := by
          have := hc1.out
          show _ < _
          rw [Int.pow_succ]; omega
        go_wp2_with fail
        go_round
        case rel =>
          refine ⟨k + 1, cv * 16 + ((x.toNat : Int) - 48), by omega, by go_num, rfl, by omega, hpw, ?_, ?_⟩
          · show _ = _
            rw [htk.out]
            unfold digs
            rw [List.all_append]
            have := hdg.out
            unfold digs at this
            rw [this]; simp [hd.out]; omega
          · show _ = _
            rw [htk.out, numF, List.foldl_append]
            show _ = numF 16 0 (s.data.toList.take k) * 16 + digitV 16 x.toNat
            rw [← hnf.out, hd.out]
        case measure => simp [intOf]; omega
      · have hd : Hid (digitV 16 x.toNat = (x.toNat : Int) - 87) := by
          show _ = _; unfold digitV; repeat (first | rw [if_pos (by omega)] | rw [if_neg (by omega)])
        have hpw : Hid (cv * 16 + ((x.toNat : Int) - 87) < 16 ^ (k + 1)) := by
          have := hc1.out
          show _ < _
          rw [Int.pow_succ]; omega
        go_wp2_with fail
        go_round
        case rel =>
          refine ⟨k + 1, cv * 16 + ((x.toNat : Int) - 87), by omega, by go_num, rfl, by omega, hpw, ?_, ?_⟩
          · show _ = _
            rw [htk.out]
            unfold digs
            rw [List.all_append]
            have := hdg.out
            unfold digs at this
            rw [this]; simp [hd.out]; omega
          · show _ = _
            rw [htk.out, numF, List.foldl_append]
            show _ = numF 16 0 (s.data.toList.take k) * 16 + digitV 16 x.toNat
            rw [← hnf.out, hd.out]
        case measure => simp [intOf]; omega
      · have hd : Hid (digitV 16 x.toNat = (x.toNat : Int) - 55) := by
          show _ = _; unfold digitV; repeat (first | rw [if_pos (by omega)] | rw [if_neg (by omega)])
        have hpw : Hid (cv * 16 + ((x.toNat : Int) - 55) < 16 ^ (k + 1)) := by
          have := hc1.out
          show _ < _
          rw [Int.pow_succ]; omega
        go_wp2_with fail
        go_round
        case rel =>
          refine ⟨k + 1, cv * 16 + ((x.toNat : Int) - 55), by omega, by go_num, rfl, by omega, hpw, ?_, ?_⟩
          · show _ = _
            rw [htk.out]
            unfold digs
            rw [List.all_append]
            have := hdg.out
            unfold digs at this
            rw [this]; simp [hd.out]; omega
          · show _ = _
            rw [htk.out, numF, List.foldl_append]
            show _ = numF 16 0 (s.data.toList.take k) * 16 + digitV 16 x.toNat
            rw [← hnf.out, hd.out]
        case measure => simp [intOf]; omega
      · have hd : Hid (digitV 16 x.toNat = -1) := by
          show _ = _; unfold digitV; repeat (first | rw [if_pos (by omega)] | rw [if_neg (by omega)])
        have hv : Hid (V = -1) := by
          show _ = _
          rw [hV.out]
          unfold numR
          rw [if_neg]
          rintro ⟨hall, _⟩
          unfold digs at hall
          rw [List.all_eq_true] at hall
          have := of_decide_eq_true (hall x hmem.out)
          rw [hd.out] at this
          omega
        go_wp2_with fail
        go_ret
        exact ⟨by rw [hv.out]; rfl, rfl⟩
      · have hd : Hid (digitV 16 x.toNat = -1) := by
          show _ = _; unfold digitV; repeat (first | rw [if_pos (by omega)] | rw [if_neg (by omega)])
        have hv : Hid (V = -1) := by
          show _ = _
          rw [hV.out]
          unfold numR
          rw [if_neg]
          rintro ⟨hall, _⟩
          unfold digs at hall
          rw [List.all_eq_true] at hall
          have := of_decide_eq_true (hall x hmem.out)
          rw [hd.out] at this
          omega
        go_wp2_with fail
        go_ret
        exact ⟨by rw [hv.out]; rfl, rfl⟩
      · have hd : Hid (digitV 16 x.toNat = -1) := by
          show _ = _; unfold digitV; repeat (first | rw [if_pos (by omega)] | rw [if_neg (by omega)])
        have hv : Hid (V = -1) := by
          show _ = _
          rw [hV.out]
          unfold numR
          rw [if_neg]
          rintro ⟨hall, _⟩
          unfold digs at hall
          rw [List.all_eq_true] at hall
          have := of_decide_eq_true (hall x hmem.out)
          rw [hd.out] at this
          omega
        go_wp2_with fail
        go_ret
        exact ⟨by rw [hv.out]; rfl, rfl⟩
      · have hd : Hid (digitV 16 x.toNat = -1) := by
          show _ = _; unfold digitV; repeat (first | rw [if_pos (by omega)] | rw [if_neg (by omega)])
        have hv : Hid (V = -1) := by
          show _ = _
          rw [hV.out]
          unfold numR
          rw [if_neg]
          rintro ⟨hall, _⟩
          unfold digs at hall
          rw [List.all_eq_true] at hall
          have := of_decide_eq_true (hall x hmem.out)
          rw [hd.out] at this
          omega
        go_wp2_with fail
        go_ret
        exact ⟨by rw [hv.out]; rfl, rfl⟩
    · have hk' : k = s.size := by omega
      have hfull : s.data.toList.take k = s.data.toList := List.take_of_length_le (by have := HL.out; omega)
      have hdg' : digs 16 s.data.toList = true := by have := hdg.out; rwa [hfull] at this
      have hnf' : cv = numF 16 0 s.data.toList := by have := hnf.out; rwa [hfull] at this
      have HD := Lib.hid hdg'; have HN := Lib.hid hnf'
      clear hfull hdg' hnf'
      by_cases hr : 1 ≤ s.size ∧ s.size ≤ 7
      · obtain ⟨hr1, hr7⟩ := hr
        have hv : Hid (V = cv) := by
          have := HL.out
          show _ = _
          rw [hV.out, HN.out]; unfold numR; rw [if_pos ⟨HD.out, by omega, by omega⟩]
        clear hk'
        go_wp2_with fail
        go_ret
        exact ⟨by rw [hv.out]; rfl, rfl⟩
      · have hv : Hid (V = -1) := by
          have := HL.out
          show _ = _
          rw [hV.out]; unfold numR; rw [if_neg (fun h => hr ⟨by omega, by omega⟩)]
        clear hk'
        rcases (by omega : s.size < 1 ∨ (1 ≤ s.size ∧ 7 < s.size)) with h1 | ⟨h1, h7⟩
        · clear hr
          go_wp2_with fail
          go_ret
          exact ⟨by rw [hv.out]; rfl, rfl⟩
        · clear hr
          go_wp2_with fail
          go_ret
          exact ⟨by rw [hv.out]; rfl, rfl⟩
end Go.Proofs.Ythfdlkafpeadiaa

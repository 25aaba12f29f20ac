/-
  The walks of the laws EscapePlain, EscapeLonger and EscapeJoins.
-/
import Derived.Test.YthfdlkafpeadiaaAlive
import Derived.Test.YthfdlkafpeadiaaRNext
import Derived.Test.YthfdlkafpeadiaaNumPlain
namespace Go.Proofs.Ythfdlkafpeadiaa
open Go.RowKit

/-- both are told, or none -/
theorem esc_two (l : List UInt8) : (∃ a b, escL false l = some a ∧ escL true l = some b ∧ Hid ((escL false l).getD [] = a ∧ (escL false l).isSome = true) ∧ Hid ((escL true l).getD [] = b ∧ (escL true l).isSome = true)) ∨
    (Hid ((escL false l).getD [] = [] ∧ (escL false l).isSome = false) ∧ Hid ((escL true l).getD [] = [] ∧ (escL true l).isSome = false)) := by
  unfold escL
  cases charsL l with
  | none => right; exact ⟨⟨rfl, rfl⟩, ⟨rfl, rfl⟩⟩
  | some cs => left; exact ⟨_, _, rfl, rfl, ⟨rfl, rfl⟩, ⟨rfl, rfl⟩⟩

theorem app_data (a b : ByteArray) : (a ++ b).data.toList = a.data.toList ++ b.data.toList := by simp
theorem app_size (a b : ByteArray) : (a ++ b).size = a.size + b.size := by simp

set_option maxRecDepth 100000 in
set_option maxHeartbeats 1000000 in
theorem walk_EscapeLonger (s : ByteArray) (w : World) (hs : s.size ≤ 1048576) (_ : s.size ≤ maxLen) : Calls Try.prog 8 #[.string s] w (Ret w (.bool true)) := by
  have HL := Lib.hid (size_toList s)
  rcases esc_two s.data.toList with ⟨a, b, ha, hb, ha', hb'⟩ | ⟨ha', hb'⟩
  · obtain ⟨h1, h2⟩ := esc_longer _ a b ha hb
    rw [HL.out] at h1
    have HA := Lib.hid ha; have HB := Lib.hid hb
    clear ha hb
    go_enter Try.func8, Try.ntmps8
    go_wp2_with (first
      | (go_at_call 14; refine (Text_as s _ (by omega) _ _ ha').mono ?_; rintro e w1 ⟨rfl, hb1⟩)
      | (go_at_call 16; refine (Value_as s _ (by omega) _ _ hb').mono ?_; rintro e w2 ⟨rfl, hb2⟩)
      | (go_at_call 10; refine (alive_any _).mono ?_; rintro e w3 ⟨rfl, hb3⟩))
    go_ret
    have hz1 := hb1.size; have hz2 := hb2.size
    exact ⟨rfl, (hb1.trans (hb2.mono (by omega))).trans (hb3.mono (by omega))⟩
  · go_enter Try.func8, Try.ntmps8
    go_wp2_with (first
      | (go_at_call 14; refine (Text_as s _ (by omega) _ _ ha').mono ?_; rintro e w1 ⟨rfl, hb1⟩)
      | (go_at_call 16; refine (Value_as s _ (by omega) _ _ hb').mono ?_; rintro e w2 ⟨rfl, hb2⟩)
      | (go_at_call 10; refine (alive_any _).mono ?_; rintro e w3 ⟨rfl, hb3⟩))
    go_ret
    have hz1 := hb1.size; have hz2 := hb2.size
    exact ⟨rfl, (hb1.trans (hb2.mono (by omega))).trans (hb3.mono (by omega))⟩

set_option maxRecDepth 100000 in
set_option maxHeartbeats 1000000 in
theorem walk_EscapeJoins (s t : ByteArray) (w : World) (hst : s.size + t.size ≤ 1048576) (_ : s.size ≤ maxLen) (_ : t.size ≤ maxLen) : Calls Try.prog 6 #[.string s, .string t] w (Ret w (.bool true)) := by
  have hs : s.size ≤ 1048576 := by omega
  have ht : t.size ≤ 1048576 := by omega
  have hz : (s ++ t).size ≤ 1099511627776 := by rw [app_size]; omega
  have HZ := Lib.hid hz
  clear hz
  rcases esc_two s.data.toList with ⟨a, b, ha, hb, ha', hb'⟩ | ⟨ha', hb'⟩
  · rcases esc_two t.data.toList with ⟨c, d, hc, hd, hc', hd'⟩ | ⟨hc', hd'⟩
    · have he : Hid ((escL false (s ++ t).data.toList).getD [] = a ++ c ∧ (escL false (s ++ t).data.toList).isSome = true) := by
        have := esc_append false _ _ _ _ ha hc
        show _ ∧ _
        rw [app_data, this]; exact ⟨rfl, rfl⟩
      have hf : Hid ((escL true (s ++ t).data.toList).getD [] = b ++ d ∧ (escL true (s ++ t).data.toList).isSome = true) := by
        have := esc_append true _ _ _ _ hb hd
        show _ ∧ _
        rw [app_data, this]; exact ⟨rfl, rfl⟩
      have h1 := str_app a c
      have h2 := str_app b d
      have hla : a.length + c.length ≤ 100000000 := by
        have := esc_len6 _ _ _ ha; have := esc_len6 _ _ _ hc; rw [size_toList] at *; omega
      have hlb : b.length + d.length ≤ 100000000 := by
        have := esc_len6 _ _ _ hb; have := esc_len6 _ _ _ hd; rw [size_toList] at *; omega
      clear ha hb hc hd
      go_enter Try.func6, Try.ntmps6
      go_wp2_with fail
      refine (Text_as s _ (by omega) _ _ ha').mono ?_; rintro e w1 ⟨rfl, hb1⟩
      go_wp2_with fail
      refine (Text_as t _ (by omega) _ _ hc').mono ?_; rintro e w2 ⟨rfl, hb2⟩
      go_wp2_with fail
      refine (Value_as s _ (by omega) _ _ hb').mono ?_; rintro e w3 ⟨rfl, hb3⟩
      go_wp2_with fail
      refine (Value_as t _ (by omega) _ _ hd').mono ?_; rintro e w4 ⟨rfl, hb4⟩
      go_wp2_with fail
      refine (Text_as (s ++ t) _ HZ.out _ _ he).mono ?_; rintro e w5 ⟨rfl, hb5⟩
      go_wp2_with fail
      refine (Value_as (s ++ t) _ HZ.out _ _ hf).mono ?_; rintro e w6 ⟨rfl, hb6⟩
      go_wp2_with (go_at_call 10; refine (alive_any _).mono ?_; rintro e w7 ⟨rfl, hb7⟩)
      go_ret
      have hz1 := hb1.size; have hz2 := hb2.size; have hz3 := hb3.size; have hz4 := hb4.size; have hz5 := hb5.size; have hz6 := hb6.size
      exact ⟨rfl, (((((hb1.trans (hb2.mono (by omega))).trans (hb3.mono (by omega))).trans (hb4.mono (by omega))).trans (hb5.mono (by omega))).trans (hb6.mono (by omega))).trans (hb7.mono (by omega))⟩
    · clear ha hb
      go_enter Try.func6, Try.ntmps6
      go_wp2_with fail
      refine (Text_as s _ (by omega) _ _ ha').mono ?_; rintro e w1 ⟨rfl, hb1⟩
      go_wp2_with fail
      refine (Text_as t _ (by omega) _ _ hc').mono ?_; rintro e w2 ⟨rfl, hb2⟩
      go_wp2_with fail
      refine (Value_as s _ (by omega) _ _ hb').mono ?_; rintro e w3 ⟨rfl, hb3⟩
      go_wp2_with fail
      refine (Value_as t _ (by omega) _ _ hd').mono ?_; rintro e w4 ⟨rfl, hb4⟩
      go_wp2_with (go_at_call 10; refine (alive_any _).mono ?_; rintro e w7 ⟨rfl, hb7⟩)
      go_ret
      have hz1 := hb1.size; have hz2 := hb2.size; have hz3 := hb3.size; have hz4 := hb4.size
      exact ⟨rfl, (((hb1.trans (hb2.mono (by omega))).trans (hb3.mono (by omega))).trans (hb4.mono (by omega))).trans (hb7.mono (by omega))⟩
  · obtain ⟨c, d, x, hc', hd'⟩ : ∃ c d x, Hid ((escL false t.data.toList).getD [] = c ∧ (escL false t.data.toList).isSome = x) ∧ Hid ((escL true t.data.toList).getD [] = d ∧ (escL true t.data.toList).isSome = x) := by
      rcases esc_two t.data.toList with ⟨c, d, _, _, hc', hd'⟩ | ⟨hc', hd'⟩
      · exact ⟨_, _, _, hc', hd'⟩
      · exact ⟨_, _, _, hc', hd'⟩
    go_enter Try.func6, Try.ntmps6
    go_wp2_with fail
    refine (Text_as s _ (by omega) _ _ ha').mono ?_; rintro e w1 ⟨rfl, hb1⟩
    go_wp2_with fail
    refine (Text_as t _ (by omega) _ _ hc').mono ?_; rintro e w2 ⟨rfl, hb2⟩
    go_wp2_with fail
    refine (Value_as s _ (by omega) _ _ hb').mono ?_; rintro e w3 ⟨rfl, hb3⟩
    go_wp2_with fail
    refine (Value_as t _ (by omega) _ _ hd').mono ?_; rintro e w4 ⟨rfl, hb4⟩
    go_wp2_with (go_at_call 10; refine (alive_any _).mono ?_; rintro e w7 ⟨rfl, hb7⟩)
    go_ret
    have hz1 := hb1.size; have hz2 := hb2.size; have hz3 := hb3.size; have hz4 := hb4.size
    exact ⟨rfl, (((hb1.trans (hb2.mono (by omega))).trans (hb3.mono (by omega))).trans (hb4.mono (by omega))).trans (hb7.mono (by omega))⟩

set_option maxRecDepth 100000 in
set_option maxHeartbeats 1000000 in
theorem walk_EscapePlain (s : ByteArray) (w : World) (hs : s.size ≤ 1048576) (_ : s.size ≤ maxLen) : Calls Try.prog 7 #[.string s] w (Ret w (.bool true)) := by
  rcases esc_two s.data.toList with ⟨_, b, _, hb, _, hb'⟩ | ⟨_, hb'⟩
  · have hall := esc_plain _ b hb
    have hbl := esc_len6 _ _ _ hb
    rw [size_toList] at hbl
    have HALL := Lib.hid hall
    clear hb hall
    obtain ⟨t, ht, htl, htz⟩ : ∃ t : ByteArray, Hid (t = ⟨b.toArray⟩) ∧ Hid (t.data.toList = b) ∧ Hid (t.size = b.length) := ⟨_, rfl, rfl, rfl⟩
    have htz' : t.size ≤ 100000000 := by rw [htz.out]; omega
    go_enter Try.func7, Try.ntmps7
    go_wp2_with fail
    refine (Value_as s _ (by omega) _ _ hb').mono ?_; rintro e w1 ⟨rfl, hb1⟩
    rw [← ht.out]
    go_wp2_with fail
    go_loop [20] (fun i => ∃ k : Nat, k ≤ t.size ∧ i = .int .i64 k) (fun i => t.size - (intOf i).toNat)
    case atStart => exact ⟨0, Nat.zero_le _, rfl⟩
    case round =>
      obtain ⟨k, hk, rfl⟩ := hrel
      by_cases hlt : k < t.size
      · obtain ⟨x, HX⟩ : ∃ x, Hid (t.data.toList[k]? = some x) := ⟨t.data.toList[k]'(by rw [htl.out]; have := htz.out; omega), List.getElem?_eq_getElem _⟩
        have hx : t[k] = x := getk_of t k x HX.out hlt
        have hxp : plainB x = true := by
          have h1 := HX.out
          have h2 := HALL.out
          rw [htl.out] at h1
          rw [List.all_eq_true] at h2
          exact h2 x (List.mem_of_getElem? h1)
        have key : ∀ j : UInt8, (x == j) = false → ((x.toNat : Int) == (j.toNat : Int)) = false := fun j hj => by
          rw [beq_eq_false_iff_ne] at hj ⊢
          intro h
          exact hj (UInt8.toNat_inj.1 (by omega))
        unfold plainB at hxp
        simp only [Bool.not_eq_true', Bool.or_eq_false_iff] at hxp
        obtain ⟨⟨⟨⟨⟨e1, e2⟩, e3⟩, e4⟩, e5⟩, e6⟩ := hxp
        have f1 : ((x.toNat : Int) == 60) = false := key 60 e1
        have f2 : ((x.toNat : Int) == 62) = false := key 62 e2
        have f3 : ((x.toNat : Int) == 34) = false := key 34 e3
        have f4 : ((x.toNat : Int) == 9) = false := key 9 e4
        have f5 : ((x.toNat : Int) == 10) = false := key 10 e5
        have f6 : ((x.toNat : Int) == 13) = false := key 13 e6
        clear key e1 e2 e3 e4 e5 e6
        go_wp2_with fail
        go_round
        case rel => exact ⟨k + 1, by omega, by go_num⟩
        case measure => simp [intOf]; omega
      · go_wp2_with (go_at_call 10; refine (alive_any _).mono ?_; rintro e w7 ⟨rfl, hb7⟩)
        go_ret
        have hz1 := hb1.size
        exact ⟨rfl, hb1.trans (hb7.mono (by omega))⟩
  · go_enter Try.func7, Try.ntmps7
    go_wp2_with fail
    refine (Value_as s _ (by omega) _ _ hb').mono ?_; rintro e w1 ⟨rfl, hb1⟩
    go_wp2_with (go_at_call 10; refine (alive_any _).mono ?_; rintro e w7 ⟨rfl, hb7⟩)
    go_ret
    have hz1 := hb1.size
    exact ⟨rfl, hb1.trans (hb7.mono (by omega))⟩
end Go.Proofs.Ythfdlkafpeadiaa

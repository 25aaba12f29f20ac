/-
  The walk of the document's Next.
-/
import Derived.Test.YthifddkmbjnncaaRPut
import Derived.Test.YthifddkmbjnncaaNext
namespace Go.Proofs.Ythifddkmbjnncaa
open Go.RowKit

theorem getk_of (s : ByteArray) (k : Nat) (x : UInt8) (h : s.data.toList[k]? = some x) (hk : k < s.size) : s[k] = x := by
  have : s.data[k]'hk = x := by
    rw [Array.getElem?_toList, Array.getElem?_eq_getElem hk] at h
    exact Option.some.inj h
  exact this

set_option maxHeartbeats 400000 in
theorem RNext_nil (s : ByteArray) (w : World) (he : s.toList.isEmpty = true) :
    Calls Try.prog 112 #[.string s] w (Ret w (.tuple #[.int .i32 0, .int .i64 0])) := by
  go_enter Try.func112, Try.ntmps112
  go_wp2_with fail
  go_ret2
  exact ⟨rfl, Below.refl _ _⟩

set_option maxRecDepth 100000 in
set_option maxHeartbeats 1000000 in
theorem RNext_good_a (s : ByteArray) (w : World) (b : UInt8) (c0 : Int) (m : List UInt8) (hs : s.size ≤ maxLen) (hp : 0 < s.size) (hne : s.toList.isEmpty = false) (he : s[0] = b) (hr0 : (b.toNat : Int) < 192) (hc0 : Hid (c0 = (b.toNat : Int)))
    (_hn : 1 ≤ s.size) (hml : Hid (m.length = 0)) (hm0 : Hid ((s.extract 0 1).toList = b :: m)) (_hmx : Hid (∀ k x, m[k]? = some x → s.data.toList[k + 1]? = some x)) (hbd : Hid (∀ k, k ≤ m.length → -1000000 < foldR c0 (m.take k) ∧ foldR c0 (m.take k) < 4194304))
    (V : Int × Nat) (hV : Hid (V = if charB (foldR c0 m) && (enc (foldR c0 m) == b :: m) then (foldR c0 m, 1) else (-1, 0))) :
    Calls Try.prog 112 #[.string s] w (Ret w (.tuple #[.int .i32 V.1, .int .i64 (V.2 : Nat)])) := by
  unfold maxLen at hs
  have hb256 : (b.toNat : Int) < 256 := by have := b.toNat_lt; omega
  go_enter Try.func112, Try.ntmps112
  go_wp2_with fail
  go_loop [5, 6] (fun c i => ∃ k : Nat, k ≤ 0 ∧ i = .int .i64 ((k + 1 : Nat) : Int) ∧ c = .int .i32 (foldR c0 (m.take k))) (fun _ i => 5 - (intOf i).toNat)
  case atStart => exact ⟨0, Nat.zero_le _, rfl, by rw [hc0.out]; rfl⟩
  case round =>
    obtain ⟨k, hk, rfl, rfl⟩ := hrel
    have hbk := hbd.out k (by have := hml.out; omega)
    generalize hck : foldR c0 (m.take k) = ck at *
    have HCK := Lib.hid hck
    clear hck
    obtain ⟨hbk0, hbk1⟩ := hbk
    by_cases hlt : k < 0
    · omega
    · obtain rfl : k = 0 := by omega
      have hfull : m.take 0 = m := List.take_of_length_le (by have := hml.out; omega)
      have HCK' : Hid (foldR c0 m = ck) := by have := HCK.out; rw [hfull] at this; exact this
      clear hfull
      by_cases hch : charB ck = true
      · have hpf : putF ck = enc ck := by unfold putF; rw [if_pos hch]
        have HPF := Lib.hid hpf
        clear hpf
        by_cases hq : (putF ck == (s.extract 0 1).toList) = true
        · have hv : Hid (V = (ck, 1)) := by
            have hq' : (enc ck == b :: m) = true := by rw [← HPF.out, ← hm0.out]; exact hq
            show V = (ck, 1)
            rw [hV.out, HCK'.out, hch, hq']; rfl
          go_wp2_with (go_at_call 114; refine (RPut_any _ _).mono ?_; rintro e w2 ⟨rfl, hb2⟩)
          go_ret2
          exact ⟨by rw [hv.out]; rfl, hb2⟩
        · have hq0 : (putF ck == (s.extract 0 1).toList) = false := by simpa using hq
          clear hq
          have hv : Hid (V = (-1, 0)) := by
            have hq' : (enc ck == b :: m) = false := by rw [← HPF.out, ← hm0.out]; exact hq0
            show V = (-1, 0)
            rw [hV.out, HCK'.out, hq']; simp
          go_wp2_with (go_at_call 114; refine (RPut_any _ _).mono ?_; rintro e w2 ⟨rfl, hb2⟩)
          go_ret2
          exact ⟨by rw [hv.out]; rfl, hb2⟩
      · have hch' : charB ck = false := by simpa using hch
        clear hch
        have hv : Hid (V = (-1, 0)) := by
          show V = (-1, 0)
          rw [hV.out, HCK'.out, hch']; simp
        go_wp2_with (go_at_call 114; refine (RPut_any _ _).mono ?_; rintro e w2 ⟨rfl, hb2⟩)
        go_ret2
        exact ⟨by rw [hv.out]; rfl, hb2⟩

set_option maxRecDepth 100000 in
set_option maxHeartbeats 1000000 in
theorem RNext_short_b (s : ByteArray) (w : World) (b : UInt8) (hs : s.size ≤ maxLen) (hp : 0 < s.size) (hne : s.toList.isEmpty = false) (he : s[0] = b) (hr0 : 192 ≤ (b.toNat : Int)) (hr1 : (b.toNat : Int) < 224) (hn : s.size < 2) :
    Calls Try.prog 112 #[.string s] w (Ret w (.tuple #[.int .i32 (-1), .int .i64 0])) := by
  unfold maxLen at hs
  have hb256 : (b.toNat : Int) < 256 := by have := b.toNat_lt; omega
  go_enter Try.func112, Try.ntmps112
  go_wp2_with fail
  go_ret2
  exact ⟨rfl, Below.refl _ _⟩

set_option maxRecDepth 100000 in
set_option maxHeartbeats 1000000 in
theorem RNext_good_b (s : ByteArray) (w : World) (b : UInt8) (c0 : Int) (m : List UInt8) (hs : s.size ≤ maxLen) (hp : 0 < s.size) (hne : s.toList.isEmpty = false) (he : s[0] = b) (hr0 : 192 ≤ (b.toNat : Int)) (hr1 : (b.toNat : Int) < 224) (hc0 : Hid (c0 = (b.toNat : Int) - 192))
    (hn : 2 ≤ s.size) (hml : Hid (m.length = 1)) (hm0 : Hid ((s.extract 0 2).toList = b :: m)) (hmx : Hid (∀ k x, m[k]? = some x → s.data.toList[k + 1]? = some x)) (hbd : Hid (∀ k, k ≤ m.length → -1000000 < foldR c0 (m.take k) ∧ foldR c0 (m.take k) < 4194304))
    (V : Int × Nat) (hV : Hid (V = if charB (foldR c0 m) && (enc (foldR c0 m) == b :: m) then (foldR c0 m, 2) else (-1, 0))) :
    Calls Try.prog 112 #[.string s] w (Ret w (.tuple #[.int .i32 V.1, .int .i64 (V.2 : Nat)])) := by
  unfold maxLen at hs
  have hb256 : (b.toNat : Int) < 256 := by have := b.toNat_lt; omega
  go_enter Try.func112, Try.ntmps112
  go_wp2_with fail
  go_loop [5, 6] (fun c i => ∃ k : Nat, k ≤ 1 ∧ i = .int .i64 ((k + 1 : Nat) : Int) ∧ c = .int .i32 (foldR c0 (m.take k))) (fun _ i => 5 - (intOf i).toNat)
  case atStart => exact ⟨0, Nat.zero_le _, rfl, by rw [hc0.out]; rfl⟩
  case round =>
    obtain ⟨k, hk, rfl, rfl⟩ := hrel
    have hbk := hbd.out k (by have := hml.out; omega)
    generalize hck : foldR c0 (m.take k) = ck at *
    have HCK := Lib.hid hck
    clear hck
    obtain ⟨hbk0, hbk1⟩ := hbk
    by_cases hlt : k < 1
    · obtain ⟨x, HX⟩ : ∃ x, Hid (m[k]? = some x) := ⟨m[k]'(by have := hml.out; omega), List.getElem?_eq_getElem _⟩
      have hks : k + 1 < s.size := by omega
      have hsx : s[k + 1] = x := getk_of s (k + 1) x (hmx.out k x HX.out) hks
      have hx1 : (x.toNat : Int) < 256 := by have := x.toNat_lt; omega
      go_wp2_with fail
      go_round
      case rel =>
        have htk : m.take (k + 1) = m.take k ++ [x] := by
          have := HX.out
          rw [List.take_add_one, this]; rfl
        exact ⟨k + 1, by omega, by go_num, by rw [htk, foldR_snoc, HCK.out]⟩
      case measure => simp [intOf]; omega
    · obtain rfl : k = 1 := by omega
      have hfull : m.take 1 = m := List.take_of_length_le (by have := hml.out; omega)
      have HCK' : Hid (foldR c0 m = ck) := by have := HCK.out; rw [hfull] at this; exact this
      clear hfull
      by_cases hch : charB ck = true
      · have hpf : putF ck = enc ck := by unfold putF; rw [if_pos hch]
        have HPF := Lib.hid hpf
        clear hpf
        by_cases hq : (putF ck == (s.extract 0 2).toList) = true
        · have hv : Hid (V = (ck, 2)) := by
            have hq' : (enc ck == b :: m) = true := by rw [← HPF.out, ← hm0.out]; exact hq
            show V = (ck, 2)
            rw [hV.out, HCK'.out, hch, hq']; rfl
          go_wp2_with (go_at_call 114; refine (RPut_any _ _).mono ?_; rintro e w2 ⟨rfl, hb2⟩)
          go_ret2
          exact ⟨by rw [hv.out]; rfl, hb2⟩
        · have hq0 : (putF ck == (s.extract 0 2).toList) = false := by simpa using hq
          clear hq
          have hv : Hid (V = (-1, 0)) := by
            have hq' : (enc ck == b :: m) = false := by rw [← HPF.out, ← hm0.out]; exact hq0
            show V = (-1, 0)
            rw [hV.out, HCK'.out, hq']; simp
          go_wp2_with (go_at_call 114; refine (RPut_any _ _).mono ?_; rintro e w2 ⟨rfl, hb2⟩)
          go_ret2
          exact ⟨by rw [hv.out]; rfl, hb2⟩
      · have hch' : charB ck = false := by simpa using hch
        clear hch
        have hv : Hid (V = (-1, 0)) := by
          show V = (-1, 0)
          rw [hV.out, HCK'.out, hch']; simp
        go_wp2_with (go_at_call 114; refine (RPut_any _ _).mono ?_; rintro e w2 ⟨rfl, hb2⟩)
        go_ret2
        exact ⟨by rw [hv.out]; rfl, hb2⟩

set_option maxRecDepth 100000 in
set_option maxHeartbeats 1000000 in
theorem RNext_short_c (s : ByteArray) (w : World) (b : UInt8) (hs : s.size ≤ maxLen) (hp : 0 < s.size) (hne : s.toList.isEmpty = false) (he : s[0] = b) (hr0 : 224 ≤ (b.toNat : Int)) (hr1 : (b.toNat : Int) < 240) (hn : s.size < 3) :
    Calls Try.prog 112 #[.string s] w (Ret w (.tuple #[.int .i32 (-1), .int .i64 0])) := by
  unfold maxLen at hs
  have hb256 : (b.toNat : Int) < 256 := by have := b.toNat_lt; omega
  go_enter Try.func112, Try.ntmps112
  go_wp2_with fail
  go_ret2
  exact ⟨rfl, Below.refl _ _⟩

set_option maxRecDepth 100000 in
set_option maxHeartbeats 1000000 in
theorem RNext_good_c (s : ByteArray) (w : World) (b : UInt8) (c0 : Int) (m : List UInt8) (hs : s.size ≤ maxLen) (hp : 0 < s.size) (hne : s.toList.isEmpty = false) (he : s[0] = b) (hr0 : 224 ≤ (b.toNat : Int)) (hr1 : (b.toNat : Int) < 240) (hc0 : Hid (c0 = (b.toNat : Int) - 224))
    (hn : 3 ≤ s.size) (hml : Hid (m.length = 2)) (hm0 : Hid ((s.extract 0 3).toList = b :: m)) (hmx : Hid (∀ k x, m[k]? = some x → s.data.toList[k + 1]? = some x)) (hbd : Hid (∀ k, k ≤ m.length → -1000000 < foldR c0 (m.take k) ∧ foldR c0 (m.take k) < 4194304))
    (V : Int × Nat) (hV : Hid (V = if charB (foldR c0 m) && (enc (foldR c0 m) == b :: m) then (foldR c0 m, 3) else (-1, 0))) :
    Calls Try.prog 112 #[.string s] w (Ret w (.tuple #[.int .i32 V.1, .int .i64 (V.2 : Nat)])) := by
  unfold maxLen at hs
  have hb256 : (b.toNat : Int) < 256 := by have := b.toNat_lt; omega
  go_enter Try.func112, Try.ntmps112
  go_wp2_with fail
  go_loop [5, 6] (fun c i => ∃ k : Nat, k ≤ 2 ∧ i = .int .i64 ((k + 1 : Nat) : Int) ∧ c = .int .i32 (foldR c0 (m.take k))) (fun _ i => 5 - (intOf i).toNat)
  case atStart => exact ⟨0, Nat.zero_le _, rfl, by rw [hc0.out]; rfl⟩
  case round =>
    obtain ⟨k, hk, rfl, rfl⟩ := hrel
    have hbk := hbd.out k (by have := hml.out; omega)
    generalize hck : foldR c0 (m.take k) = ck at *
    have HCK := Lib.hid hck
    clear hck
    obtain ⟨hbk0, hbk1⟩ := hbk
    by_cases hlt : k < 2
    · obtain ⟨x, HX⟩ : ∃ x, Hid (m[k]? = some x) := ⟨m[k]'(by have := hml.out; omega), List.getElem?_eq_getElem _⟩
      have hks : k + 1 < s.size := by omega
      have hsx : s[k + 1] = x := getk_of s (k + 1) x (hmx.out k x HX.out) hks
      have hx1 : (x.toNat : Int) < 256 := by have := x.toNat_lt; omega
      go_wp2_with fail
      go_round
      case rel =>
        have htk : m.take (k + 1) = m.take k ++ [x] := by
          have := HX.out
          rw [List.take_add_one, this]; rfl
        exact ⟨k + 1, by omega, by go_num, by rw [htk, foldR_snoc, HCK.out]⟩
      case measure => simp [intOf]; omega
    · obtain rfl : k = 2 := by omega
      have hfull : m.take 2 = m := List.take_of_length_le (by have := hml.out; omega)
      have HCK' : Hid (foldR c0 m = ck) := by have := HCK.out; rw [hfull] at this; exact this
      clear hfull
      by_cases hch : charB ck = true
      · have hpf : putF ck = enc ck := by unfold putF; rw [if_pos hch]
        have HPF := Lib.hid hpf
        clear hpf
        by_cases hq : (putF ck == (s.extract 0 3).toList) = true
        · have hv : Hid (V = (ck, 3)) := by
            have hq' : (enc ck == b :: m) = true := by rw [← HPF.out, ← hm0.out]; exact hq
            show V = (ck, 3)
            rw [hV.out, HCK'.out, hch, hq']; rfl
          go_wp2_with (go_at_call 114; refine (RPut_any _ _).mono ?_; rintro e w2 ⟨rfl, hb2⟩)
          go_ret2
          exact ⟨by rw [hv.out]; rfl, hb2⟩
        · have hq0 : (putF ck == (s.extract 0 3).toList) = false := by simpa using hq
          clear hq
          have hv : Hid (V = (-1, 0)) := by
            have hq' : (enc ck == b :: m) = false := by rw [← HPF.out, ← hm0.out]; exact hq0
            show V = (-1, 0)
            rw [hV.out, HCK'.out, hq']; simp
          go_wp2_with (go_at_call 114; refine (RPut_any _ _).mono ?_; rintro e w2 ⟨rfl, hb2⟩)
          go_ret2
          exact ⟨by rw [hv.out]; rfl, hb2⟩
      · have hch' : charB ck = false := by simpa using hch
        clear hch
        have hv : Hid (V = (-1, 0)) := by
          show V = (-1, 0)
          rw [hV.out, HCK'.out, hch']; simp
        go_wp2_with (go_at_call 114; refine (RPut_any _ _).mono ?_; rintro e w2 ⟨rfl, hb2⟩)
        go_ret2
        exact ⟨by rw [hv.out]; rfl, hb2⟩

set_option maxRecDepth 100000 in
set_option maxHeartbeats 1000000 in
theorem RNext_short_d (s : ByteArray) (w : World) (b : UInt8) (hs : s.size ≤ maxLen) (hp : 0 < s.size) (hne : s.toList.isEmpty = false) (he : s[0] = b) (hr0 : 240 ≤ (b.toNat : Int)) (hr1 : (b.toNat : Int) < 248) (hn : s.size < 4) :
    Calls Try.prog 112 #[.string s] w (Ret w (.tuple #[.int .i32 (-1), .int .i64 0])) := by
  unfold maxLen at hs
  have hb256 : (b.toNat : Int) < 256 := by have := b.toNat_lt; omega
  go_enter Try.func112, Try.ntmps112
  go_wp2_with fail
  go_ret2
  exact ⟨rfl, Below.refl _ _⟩

set_option maxRecDepth 100000 in
set_option maxHeartbeats 1000000 in
theorem RNext_good_d (s : ByteArray) (w : World) (b : UInt8) (c0 : Int) (m : List UInt8) (hs : s.size ≤ maxLen) (hp : 0 < s.size) (hne : s.toList.isEmpty = false) (he : s[0] = b) (hr0 : 240 ≤ (b.toNat : Int)) (hr1 : (b.toNat : Int) < 248) (hc0 : Hid (c0 = (b.toNat : Int) - 240))
    (hn : 4 ≤ s.size) (hml : Hid (m.length = 3)) (hm0 : Hid ((s.extract 0 4).toList = b :: m)) (hmx : Hid (∀ k x, m[k]? = some x → s.data.toList[k + 1]? = some x)) (hbd : Hid (∀ k, k ≤ m.length → -1000000 < foldR c0 (m.take k) ∧ foldR c0 (m.take k) < 4194304))
    (V : Int × Nat) (hV : Hid (V = if charB (foldR c0 m) && (enc (foldR c0 m) == b :: m) then (foldR c0 m, 4) else (-1, 0))) :
    Calls Try.prog 112 #[.string s] w (Ret w (.tuple #[.int .i32 V.1, .int .i64 (V.2 : Nat)])) := by
  unfold maxLen at hs
  have hb256 : (b.toNat : Int) < 256 := by have := b.toNat_lt; omega
  go_enter Try.func112, Try.ntmps112
  go_wp2_with fail
  go_loop [5, 6] (fun c i => ∃ k : Nat, k ≤ 3 ∧ i = .int .i64 ((k + 1 : Nat) : Int) ∧ c = .int .i32 (foldR c0 (m.take k))) (fun _ i => 5 - (intOf i).toNat)
  case atStart => exact ⟨0, Nat.zero_le _, rfl, by rw [hc0.out]; rfl⟩
  case round =>
    obtain ⟨k, hk, rfl, rfl⟩ := hrel
    have hbk := hbd.out k (by have := hml.out; omega)
    generalize hck : foldR c0 (m.take k) = ck at *
    have HCK := Lib.hid hck
    clear hck
    obtain ⟨hbk0, hbk1⟩ := hbk
    by_cases hlt : k < 3
    · obtain ⟨x, HX⟩ : ∃ x, Hid (m[k]? = some x) := ⟨m[k]'(by have := hml.out; omega), List.getElem?_eq_getElem _⟩
      have hks : k + 1 < s.size := by omega
      have hsx : s[k + 1] = x := getk_of s (k + 1) x (hmx.out k x HX.out) hks
      have hx1 : (x.toNat : Int) < 256 := by have := x.toNat_lt; omega
      go_wp2_with fail
      go_round
      case rel =>
        have htk : m.take (k + 1) = m.take k ++ [x] := by
          have := HX.out
          rw [List.take_add_one, this]; rfl
        exact ⟨k + 1, by omega, by go_num, by rw [htk, foldR_snoc, HCK.out]⟩
      case measure => simp [intOf]; omega
    · obtain rfl : k = 3 := by omega
      have hfull : m.take 3 = m := List.take_of_length_le (by have := hml.out; omega)
      have HCK' : Hid (foldR c0 m = ck) := by have := HCK.out; rw [hfull] at this; exact this
      clear hfull
      by_cases hch : charB ck = true
      · have hpf : putF ck = enc ck := by unfold putF; rw [if_pos hch]
        have HPF := Lib.hid hpf
        clear hpf
        by_cases hq : (putF ck == (s.extract 0 4).toList) = true
        · have hv : Hid (V = (ck, 4)) := by
            have hq' : (enc ck == b :: m) = true := by rw [← HPF.out, ← hm0.out]; exact hq
            show V = (ck, 4)
            rw [hV.out, HCK'.out, hch, hq']; rfl
          go_wp2_with (go_at_call 114; refine (RPut_any _ _).mono ?_; rintro e w2 ⟨rfl, hb2⟩)
          go_ret2
          exact ⟨by rw [hv.out]; rfl, hb2⟩
        · have hq0 : (putF ck == (s.extract 0 4).toList) = false := by simpa using hq
          clear hq
          have hv : Hid (V = (-1, 0)) := by
            have hq' : (enc ck == b :: m) = false := by rw [← HPF.out, ← hm0.out]; exact hq0
            show V = (-1, 0)
            rw [hV.out, HCK'.out, hq']; simp
          go_wp2_with (go_at_call 114; refine (RPut_any _ _).mono ?_; rintro e w2 ⟨rfl, hb2⟩)
          go_ret2
          exact ⟨by rw [hv.out]; rfl, hb2⟩
      · have hch' : charB ck = false := by simpa using hch
        clear hch
        have hv : Hid (V = (-1, 0)) := by
          show V = (-1, 0)
          rw [hV.out, HCK'.out, hch']; simp
        go_wp2_with (go_at_call 114; refine (RPut_any _ _).mono ?_; rintro e w2 ⟨rfl, hb2⟩)
        go_ret2
        exact ⟨by rw [hv.out]; rfl, hb2⟩

set_option maxRecDepth 100000 in
set_option maxHeartbeats 1000000 in
theorem RNext_good_e (s : ByteArray) (w : World) (b : UInt8) (c0 : Int) (m : List UInt8) (hs : s.size ≤ maxLen) (hp : 0 < s.size) (hne : s.toList.isEmpty = false) (he : s[0] = b) (hr0 : 248 ≤ (b.toNat : Int)) (hc0 : Hid (c0 = (b.toNat : Int)))
    (_hn : 1 ≤ s.size) (hml : Hid (m.length = 0)) (hm0 : Hid ((s.extract 0 1).toList = b :: m)) (_hmx : Hid (∀ k x, m[k]? = some x → s.data.toList[k + 1]? = some x)) (hbd : Hid (∀ k, k ≤ m.length → -1000000 < foldR c0 (m.take k) ∧ foldR c0 (m.take k) < 4194304))
    (V : Int × Nat) (hV : Hid (V = if charB (foldR c0 m) && (enc (foldR c0 m) == b :: m) then (foldR c0 m, 1) else (-1, 0))) :
    Calls Try.prog 112 #[.string s] w (Ret w (.tuple #[.int .i32 V.1, .int .i64 (V.2 : Nat)])) := by
  unfold maxLen at hs
  have hb256 : (b.toNat : Int) < 256 := by have := b.toNat_lt; omega
  go_enter Try.func112, Try.ntmps112
  go_wp2_with fail
  go_loop [5, 6] (fun c i => ∃ k : Nat, k ≤ 0 ∧ i = .int .i64 ((k + 1 : Nat) : Int) ∧ c = .int .i32 (foldR c0 (m.take k))) (fun _ i => 5 - (intOf i).toNat)
  case atStart => exact ⟨0, Nat.zero_le _, rfl, by rw [hc0.out]; rfl⟩
  case round =>
    obtain ⟨k, hk, rfl, rfl⟩ := hrel
    have hbk := hbd.out k (by have := hml.out; omega)
    generalize hck : foldR c0 (m.take k) = ck at *
    have HCK := Lib.hid hck
    clear hck
    obtain ⟨hbk0, hbk1⟩ := hbk
    by_cases hlt : k < 0
    · omega
    · obtain rfl : k = 0 := by omega
      have hfull : m.take 0 = m := List.take_of_length_le (by have := hml.out; omega)
      have HCK' : Hid (foldR c0 m = ck) := by have := HCK.out; rw [hfull] at this; exact this
      clear hfull
      by_cases hch : charB ck = true
      · have hpf : putF ck = enc ck := by unfold putF; rw [if_pos hch]
        have HPF := Lib.hid hpf
        clear hpf
        by_cases hq : (putF ck == (s.extract 0 1).toList) = true
        · have hv : Hid (V = (ck, 1)) := by
            have hq' : (enc ck == b :: m) = true := by rw [← HPF.out, ← hm0.out]; exact hq
            show V = (ck, 1)
            rw [hV.out, HCK'.out, hch, hq']; rfl
          go_wp2_with (go_at_call 114; refine (RPut_any _ _).mono ?_; rintro e w2 ⟨rfl, hb2⟩)
          go_ret2
          exact ⟨by rw [hv.out]; rfl, hb2⟩
        · have hq0 : (putF ck == (s.extract 0 1).toList) = false := by simpa using hq
          clear hq
          have hv : Hid (V = (-1, 0)) := by
            have hq' : (enc ck == b :: m) = false := by rw [← HPF.out, ← hm0.out]; exact hq0
            show V = (-1, 0)
            rw [hV.out, HCK'.out, hq']; simp
          go_wp2_with (go_at_call 114; refine (RPut_any _ _).mono ?_; rintro e w2 ⟨rfl, hb2⟩)
          go_ret2
          exact ⟨by rw [hv.out]; rfl, hb2⟩
      · have hch' : charB ck = false := by simpa using hch
        clear hch
        have hv : Hid (V = (-1, 0)) := by
          show V = (-1, 0)
          rw [hV.out, HCK'.out, hch']; simp
        go_wp2_with (go_at_call 114; refine (RPut_any _ _).mono ?_; rintro e w2 ⟨rfl, hb2⟩)
        go_ret2
        exact ⟨by rw [hv.out]; rfl, hb2⟩

/-- The document's Next: any text. -/
theorem RNext_any (s : ByteArray) (w : World) (hs : s.size ≤ maxLen) :
    Calls Try.prog 112 #[.string s] w (Ret w (.tuple #[.int .i32 (nextL s.data.toList).1, .int .i64 ((nextL s.data.toList).2 : Nat)])) := by
  have hsz := size_toList s
  cases hl : s.data.toList with
  | nil => exact RNext_nil s w (by rw [ByteArray.toList_eq, hl]; rfl)
  | cons b t =>
    have hp : 0 < s.size := by rw [← hsz, hl]; simp
    have hne : s.toList.isEmpty = false := by rw [ByteArray.toList_eq, hl]; rfl
    have he := get0_of s b t hl hp
    have hlen : t.length + 1 = s.size := by rw [← hsz, hl]; rfl
    have hb256 : (b.toNat : Int) < 256 := by have := b.toNat_lt; omega
    have hx0 : ∀ n, (s.extract 0 (n + 1)).toList = b :: t.take n := fun n => by
      rw [ByteArray.toList_eq, Lib.extract_data, hl]; rfl
    have hmx : ∀ n k x, (t.take n)[k]? = some x → s.data.toList[k + 1]? = some x := fun n k x h => by
      rw [hl, List.getElem?_cons_succ]
      rw [List.getElem?_take] at h
      split at h
      · exact h
      · cases h
    have hv := rnext_eq b t
    have hbd := fun (n : Nat) (hn : (t.take n).length + 1 ≤ rN b.toNat) => foldR_bd b.toNat (by omega) (t.take n) hb256 hn
    generalize hV : nextL (b :: t) = V at *
    rcases (by omega : (b.toNat : Int) < 192 ∨ (192 ≤ (b.toNat : Int) ∧ (b.toNat : Int) < 224) ∨ (224 ≤ (b.toNat : Int) ∧ (b.toNat : Int) < 240) ∨ (240 ≤ (b.toNat : Int) ∧ (b.toNat : Int) < 248) ∨ 248 ≤ (b.toNat : Int)) with h | ⟨h, h'⟩ | ⟨h, h'⟩ | ⟨h, h'⟩ | h
    · have e1 : rN b.toNat = 1 := by unfold rN; repeat (first | rw [if_pos (by omega)] | rw [if_neg (by omega)])
      have e2 : rC b.toNat = (b.toNat : Int) := by unfold rC; repeat (first | rw [if_pos (by omega)] | rw [if_neg (by omega)])
      rw [e1, e2] at hv
      rw [e1, e2] at hbd
      by_cases hlt : t.length + 1 < 1
      · omega
      · rw [if_neg hlt] at hv
        have hml : (t.take 0).length = 0 := by rw [List.length_take]; omega
        exact RNext_good_a s w b _ (t.take 0) hs hp hne he h rfl (by omega) hml (hx0 0) (hmx 0) (hbd 0 (by omega)) V hv.symm
    · have e1 : rN b.toNat = 2 := by unfold rN; repeat (first | rw [if_pos (by omega)] | rw [if_neg (by omega)])
      have e2 : rC b.toNat = (b.toNat : Int) - 192 := by unfold rC; repeat (first | rw [if_pos (by omega)] | rw [if_neg (by omega)])
      rw [e1, e2] at hv
      rw [e1, e2] at hbd
      by_cases hlt : t.length + 1 < 2
      · rw [if_pos hlt] at hv
        rw [← hv]
        exact RNext_short_b s w b hs hp hne he h h' (by omega)
      · rw [if_neg hlt] at hv
        have hml : (t.take 1).length = 1 := by rw [List.length_take]; omega
        exact RNext_good_b s w b _ (t.take 1) hs hp hne he h h' rfl (by omega) hml (hx0 1) (hmx 1) (hbd 1 (by omega)) V hv.symm
    · have e1 : rN b.toNat = 3 := by unfold rN; repeat (first | rw [if_pos (by omega)] | rw [if_neg (by omega)])
      have e2 : rC b.toNat = (b.toNat : Int) - 224 := by unfold rC; repeat (first | rw [if_pos (by omega)] | rw [if_neg (by omega)])
      rw [e1, e2] at hv
      rw [e1, e2] at hbd
      by_cases hlt : t.length + 1 < 3
      · rw [if_pos hlt] at hv
        rw [← hv]
        exact RNext_short_c s w b hs hp hne he h h' (by omega)
      · rw [if_neg hlt] at hv
        have hml : (t.take 2).length = 2 := by rw [List.length_take]; omega
        exact RNext_good_c s w b _ (t.take 2) hs hp hne he h h' rfl (by omega) hml (hx0 2) (hmx 2) (hbd 2 (by omega)) V hv.symm
    · have e1 : rN b.toNat = 4 := by unfold rN; repeat (first | rw [if_pos (by omega)] | rw [if_neg (by omega)])
      have e2 : rC b.toNat = (b.toNat : Int) - 240 := by unfold rC; repeat (first | rw [if_pos (by omega)] | rw [if_neg (by omega)])
      rw [e1, e2] at hv
      rw [e1, e2] at hbd
      by_cases hlt : t.length + 1 < 4
      · rw [if_pos hlt] at hv
        rw [← hv]
        exact RNext_short_d s w b hs hp hne he h h' (by omega)
      · rw [if_neg hlt] at hv
        have hml : (t.take 3).length = 3 := by rw [List.length_take]; omega
        exact RNext_good_d s w b _ (t.take 3) hs hp hne he h h' rfl (by omega) hml (hx0 3) (hmx 3) (hbd 3 (by omega)) V hv.symm
    · have e1 : rN b.toNat = 1 := by unfold rN; repeat (first | rw [if_pos (by omega)] | rw [if_neg (by omega)])
      have e2 : rC b.toNat = (b.toNat : Int) := by unfold rC; repeat (first | rw [if_pos (by omega)] | rw [if_neg (by omega)])
      rw [e1, e2] at hv
      rw [e1, e2] at hbd
      by_cases hlt : t.length + 1 < 1
      · omega
      · rw [if_neg hlt] at hv
        have hml : (t.take 0).length = 0 := by rw [List.length_take]; omega
        exact RNext_good_e s w b _ (t.take 0) hs hp hne he h rfl (by omega) hml (hx0 0) (hmx 0) (hbd 0 (by omega)) V hv.symm
end Go.Proofs.Ythifddkmbjnncaa

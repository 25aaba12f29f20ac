/-
  Texts of this claim, joined (by a program of the claim's author): RPut, RNext, UndoPlain, REsc, Count, Names, OwnS, OwnA, Res, NormPlain, PrintPlain, DocPlain, FitPlain, IdemPlain.
-/
import Derived.Test.YthifddkmbjnncaaK1
import Derived.Laws.OwnMore
import Derived.Laws.StructEq
import Derived.Laws.Rows
/-
  The walks of the document's Char, six and Put.
-/
namespace Go.Proofs.Ythifddkmbjnncaa
open Go.RowKit

/-! The document's Char and Put. -/
set_option maxHeartbeats 1000000 in
theorem RChar_any (c : Int) (w : World) :
    Calls Try.prog 136 #[.int .i32 c] w fun e w' => e = .returned (.bool (charB c)) ∧ w = w' := by
  go_enter Try.func136, Try.ntmps136
  go_wp2
  all_goals go_ret
  all_goals (refine ⟨congrArg (fun b => Ending.returned (.bool b)) ?_, rfl⟩; rw [Bool.eq_iff_iff]; simp [charB]; try omega)

set_option maxHeartbeats 400000 in
theorem six_any (c f : Int) (w : World) (h0 : 0 ≤ c) (h1 : c ≤ 1114111) (hf : 1 ≤ f) (hf1 : f ≤ 4096) :
    Calls Try.prog 137 #[.int .i32 c, .int .i32 f] w fun e w' => e = .returned (.int .u8 (128 + c / f % 64)) ∧ w = w' := by
  have hd0 : 0 ≤ c / f := Int.ediv_nonneg h0 (by omega)
  have hd1 : c / f ≤ c := Int.ediv_le_self _ h0
  have hb : 0 ≤ c / f % 64 ∧ c / f % 64 < 64 := by omega
  obtain ⟨hb0, hb1⟩ := hb
  go_enter Try.func137, Try.ntmps137
  go_wp2
  go_ret
  refine ⟨?_, rfl⟩
  rfl

set_option maxHeartbeats 1000000 in
theorem RPut_any (c : Int) (w : World) :
    Calls Try.prog 114 #[.int .i32 c] w (Ret w (.tuple #[.string ⟨(putF c).toArray⟩, .bool (charB c)])) := by
  by_cases hc : charB c = true
  · have hp : putF c = enc c := by unfold putF; rw [if_pos hc]
    have hr : 0 ≤ c ∧ c ≤ 1114111 := by simp [charB] at hc; omega
    obtain ⟨hr0, hr1⟩ := hr
    have HP := Lib.hid hp
    clear hp
    rcases (by omega : c < 128 ∨ (128 ≤ c ∧ c < 2048) ∨ (2048 ≤ c ∧ c < 65536) ∨ 65536 ≤ c) with h | ⟨h, h'⟩ | ⟨h, h'⟩ | h
    · have hx : (#[Value.int .u8 (c)] : Array Value).toList = Lib.byteCells (enc c) := by
        unfold enc; rw [if_pos (by omega)]; simp only [Lib.byteCells, List.map_cons, List.map_nil]
        simp only [bt_toNat (c) (by omega) (by omega)]
      have hln : (enc c).length = 1 := by unfold enc; rw [if_pos (by omega)]; rfl
      have hcv := run_string_lit (P := Try.prog) (enc c) _ hx (by rw [hln]; decide) Try.underlying78 Try.underlying5 Try.underlying9
      rw [hln] at hcv
      clear hx hln
      go_enter Try.func114, Try.ntmps114
      go_wp2_with (first
        | (go_at_call 136; refine (RChar_any _ _).mono ?_; rintro e w' ⟨rfl, rfl⟩)
        | (go_at_call 137; refine (six_any _ _ _ (by omega) (by omega) (by omega) (by omega)).mono ?_; rintro e w' ⟨rfl, rfl⟩))
      go_ret2
      exact ⟨by rw [HP.out, hc]; rfl, (Below.refl _ _).alloc (Nat.le_refl _) _⟩
    · have hx : (#[Value.int .u8 (192 + c / 64), Value.int .u8 (128 + c % 64)] : Array Value).toList = Lib.byteCells (enc c) := by
        unfold enc; rw [if_neg (by omega), if_pos (by omega)]; simp only [Lib.byteCells, List.map_cons, List.map_nil]
        simp only [bt_toNat (192 + c / 64) (by omega) (by omega), bt_toNat (128 + c % 64) (by omega) (by omega)]
      have hln : (enc c).length = 2 := by unfold enc; rw [if_neg (by omega), if_pos (by omega)]; rfl
      have hcv := run_string_lit (P := Try.prog) (enc c) _ hx (by rw [hln]; decide) Try.underlying78 Try.underlying5 Try.underlying9
      rw [hln] at hcv
      clear hx hln
      go_enter Try.func114, Try.ntmps114
      go_wp2_with (first
        | (go_at_call 136; refine (RChar_any _ _).mono ?_; rintro e w' ⟨rfl, rfl⟩)
        | (go_at_call 137; refine (six_any _ _ _ (by omega) (by omega) (by omega) (by omega)).mono ?_; rintro e w' ⟨rfl, rfl⟩))
      go_ret2
      exact ⟨by rw [HP.out, hc]; rfl, (Below.refl _ _).alloc (Nat.le_refl _) _⟩
    · have hx : (#[Value.int .u8 (224 + c / 4096), Value.int .u8 (128 + c / 64 % 64), Value.int .u8 (128 + c % 64)] : Array Value).toList = Lib.byteCells (enc c) := by
        unfold enc; rw [if_neg (by omega), if_neg (by omega), if_pos (by omega)]; simp only [Lib.byteCells, List.map_cons, List.map_nil]
        simp only [bt_toNat (224 + c / 4096) (by omega) (by omega), bt_toNat (128 + c / 64 % 64) (by omega) (by omega), bt_toNat (128 + c % 64) (by omega) (by omega)]
      have hln : (enc c).length = 3 := by unfold enc; rw [if_neg (by omega), if_neg (by omega), if_pos (by omega)]; rfl
      have hcv := run_string_lit (P := Try.prog) (enc c) _ hx (by rw [hln]; decide) Try.underlying78 Try.underlying5 Try.underlying9
      rw [hln] at hcv
      clear hx hln
      go_enter Try.func114, Try.ntmps114
      go_wp2_with (first
        | (go_at_call 136; refine (RChar_any _ _).mono ?_; rintro e w' ⟨rfl, rfl⟩)
        | (go_at_call 137; refine (six_any _ _ _ (by omega) (by omega) (by omega) (by omega)).mono ?_; rintro e w' ⟨rfl, rfl⟩))
      go_ret2
      exact ⟨by rw [HP.out, hc]; rfl, (Below.refl _ _).alloc (Nat.le_refl _) _⟩
    · have hx : (#[Value.int .u8 (240 + c / 262144), Value.int .u8 (128 + c / 4096 % 64), Value.int .u8 (128 + c / 64 % 64), Value.int .u8 (128 + c % 64)] : Array Value).toList = Lib.byteCells (enc c) := by
        unfold enc; rw [if_neg (by omega), if_neg (by omega), if_neg (by omega)]; simp only [Lib.byteCells, List.map_cons, List.map_nil]
        simp only [bt_toNat (240 + c / 262144) (by omega) (by omega), bt_toNat (128 + c / 4096 % 64) (by omega) (by omega), bt_toNat (128 + c / 64 % 64) (by omega) (by omega), bt_toNat (128 + c % 64) (by omega) (by omega)]
      have hln : (enc c).length = 4 := by unfold enc; rw [if_neg (by omega), if_neg (by omega), if_neg (by omega)]; rfl
      have hcv := run_string_lit (P := Try.prog) (enc c) _ hx (by rw [hln]; decide) Try.underlying78 Try.underlying5 Try.underlying9
      rw [hln] at hcv
      clear hx hln
      go_enter Try.func114, Try.ntmps114
      go_wp2_with (first
        | (go_at_call 136; refine (RChar_any _ _).mono ?_; rintro e w' ⟨rfl, rfl⟩)
        | (go_at_call 137; refine (six_any _ _ _ (by omega) (by omega) (by omega) (by omega)).mono ?_; rintro e w' ⟨rfl, rfl⟩))
      go_ret2
      exact ⟨by rw [HP.out, hc]; rfl, (Below.refl _ _).alloc (Nat.le_refl _) _⟩
  · have hc' : charB c = false := by simpa using hc
    clear hc
    have HP : Hid (putF c = []) := by unfold putF; rw [hc']; rfl
    go_enter Try.func114, Try.ntmps114
    go_wp2_with (go_at_call 136; refine (RChar_any _ _).mono ?_; rintro e w' ⟨rfl, rfl⟩)
    go_ret2
    exact ⟨by rw [HP.out, hc']; rfl, Below.refl _ _⟩
end Go.Proofs.Ythifddkmbjnncaa

/-
  The walk of the document's Next.
-/
namespace Go.Proofs.Ythifddkmbjnncaa
open Go.RowKit

theorem getk_of (s : ByteArray) (k : Nat) (x : UInt8) (h : s.data.toList[k]? = some x) (hk : k < s.size) : s[k] = x := by
  have : s.data[k]'hk = x := by
    rw [Array.getElem?_toList, Array.getElem?_eq_getElem hk] at h
    exact Option.some.inj h
  exact this

set_option maxHeartbeats 400000 in
theorem RNext_nil (s : ByteArray) (w : World) (he : s.toList.isEmpty = true) :
    Calls Try.prog 112 #[.string s] w (Ret w (.tuple #[.int .i32 0, .int .i64 0])) := by
  go_enter Try.func112, Try.ntmps112
  go_wp2_with fail
  go_ret2
  exact ⟨rfl, Below.refl _ _⟩

set_option maxRecDepth 100000 in
set_option maxHeartbeats 1000000 in
theorem RNext_good_a (s : ByteArray) (w : World) (b : UInt8) (c0 : Int) (m : List UInt8) (hs : s.size ≤ maxLen) (hp : 0 < s.size) (hne : s.toList.isEmpty = false) (he : s[0] = b) (hr0 : (b.toNat : Int) < 192) (hc0 : Hid (c0 = (b.toNat : Int)))
    (_hn : 1 ≤ s.size) (hml : Hid (m.length = 0)) (hm0 : Hid ((s.extract 0 1).toList = b :: m)) (_hmx : Hid (∀ k x, m[k]? = some x → s.data.toList[k + 1]? = some x)) (hbd : Hid (∀ k, k ≤ m.length → -1000000 < foldR c0 (m.take k) ∧ foldR c0 (m.take k) < 4194304))
    (V : Int × Nat) (hV : Hid (V = if charB (foldR c0 m) && (enc (foldR c0 m) == b :: m) then (foldR c0 m, 1) else (-1, 0))) :
    Calls Try.prog 112 #[.string s] w (Ret w (.tuple #[.int .i32 V.1, .int .i64 (V.2 : Nat)])) := by
  unfold maxLen at hs
  have hb256 : (b.toNat : Int) < 256 := by have := b.toNat_lt; omega
  go_enter Try.func112, Try.ntmps112
  go_wp2_with fail
  go_loop [5, 6] (fun c i => ∃ k : Nat, k ≤ 0 ∧ i = .int .i64 ((k + 1 : Nat) : Int) ∧ c = .int .i32 (foldR c0 (m.take k))) (fun _ i => 5 - (intOf i).toNat)
  case atStart => exact ⟨0, Nat.zero_le _, rfl, by rw [hc0.out]; rfl⟩
  case round =>
    obtain ⟨k, hk, rfl, rfl⟩ := hrel
    have hbk := hbd.out k (by have := hml.out; omega)
    generalize hck : foldR c0 (m.take k) = ck at *
    have HCK := Lib.hid hck
    clear hck
    obtain ⟨hbk0, hbk1⟩ := hbk
    by_cases hlt : k < 0
    · omega
    · obtain rfl : k = 0 := by omega
      have hfull : m.take 0 = m := List.take_of_length_le (by have := hml.out; omega)
      have HCK' : Hid (foldR c0 m = ck) := by have := HCK.out; rw [hfull] at this; exact this
      clear hfull
      by_cases hch : charB ck = true
      · have hpf : putF ck = enc ck := by unfold putF; rw [if_pos hch]
        have HPF := Lib.hid hpf
        clear hpf
        by_cases hq : (putF ck == (s.extract 0 1).toList) = true
        · have hv : Hid (V = (ck, 1)) := by
            have hq' : (enc ck == b :: m) = true := by rw [← HPF.out, ← hm0.out]; exact hq
            show V = (ck, 1)
            rw [hV.out, HCK'.out, hch, hq']; rfl
          go_wp2_with (go_at_call 114; refine (RPut_any _ _).mono ?_; rintro e w2 ⟨rfl, hb2⟩)
          go_ret2
          exact ⟨by rw [hv.out]; rfl, hb2⟩
        · have hq0 : (putF ck == (s.extract 0 1).toList) = false := by simpa using hq
          clear hq
          have hv : Hid (V = (-1, 0)) := by
            have hq' : (enc ck == b :: m) = false := by rw [← HPF.out, ← hm0.out]; exact hq0
            show V = (-1, 0)
            rw [hV.out, HCK'.out, hq']; simp
          go_wp2_with (go_at_call 114; refine (RPut_any _ _).mono ?_; rintro e w2 ⟨rfl, hb2⟩)
          go_ret2
          exact ⟨by rw [hv.out]; rfl, hb2⟩
      · have hch' : charB ck = false := by simpa using hch
        clear hch
        have hv : Hid (V = (-1, 0)) := by
          show V = (-1, 0)
          rw [hV.out, HCK'.out, hch']; simp
        go_wp2_with (go_at_call 114; refine (RPut_any _ _).mono ?_; rintro e w2 ⟨rfl, hb2⟩)
        go_ret2
        exact ⟨by rw [hv.out]; rfl, hb2⟩

set_option maxRecDepth 100000 in
set_option maxHeartbeats 1000000 in
theorem RNext_short_b (s : ByteArray) (w : World) (b : UInt8) (hs : s.size ≤ maxLen) (hp : 0 < s.size) (hne : s.toList.isEmpty = false) (he : s[0] = b) (hr0 : 192 ≤ (b.toNat : Int)) (hr1 : (b.toNat : Int) < 224) (hn : s.size < 2) :
    Calls Try.prog 112 #[.string s] w (Ret w (.tuple #[.int .i32 (-1), .int .i64 0])) := by
  unfold maxLen at hs
  have hb256 : (b.toNat : Int) < 256 := by have := b.toNat_lt; omega
  go_enter Try.func112, Try.ntmps112
  go_wp2_with fail
  go_ret2
  exact ⟨rfl, Below.refl _ _⟩

set_option maxRecDepth 100000 in
set_option maxHeartbeats 1000000 in
theorem RNext_good_b (s : ByteArray) (w : World) (b : UInt8) (c0 : Int) (m : List UInt8) (hs : s.size ≤ maxLen) (hp : 0 < s.size) (hne : s.toList.isEmpty = false) (he : s[0] = b) (hr0 : 192 ≤ (b.toNat : Int)) (hr1 : (b.toNat : Int) < 224) (hc0 : Hid (c0 = (b.toNat : Int) - 192))
    (hn : 2 ≤ s.size) (hml : Hid (m.length = 1)) (hm0 : Hid ((s.extract 0 2).toList = b :: m)) (hmx : Hid (∀ k x, m[k]? = some x → s.data.toList[k + 1]? = some x)) (hbd : Hid (∀ k, k ≤ m.length → -1000000 < foldR c0 (m.take k) ∧ foldR c0 (m.take k) < 4194304))
    (V : Int × Nat) (hV : Hid (V = if charB (foldR c0 m) && (enc (foldR c0 m) == b :: m) then (foldR c0 m, 2) else (-1, 0))) :
    Calls Try.prog 112 #[.string s] w (Ret w (.tuple #[.int .i32 V.1, .int .i64 (V.2 : Nat)])) := by
  unfold maxLen at hs
  have hb256 : (b.toNat : Int) < 256 := by have := b.toNat_lt; omega
  go_enter Try.func112, Try.ntmps112
  go_wp2_with fail
  go_loop [5, 6] (fun c i => ∃ k : Nat, k ≤ 1 ∧ i = .int .i64 ((k + 1 : Nat) : Int) ∧ c = .int .i32 (foldR c0 (m.take k))) (fun _ i => 5 - (intOf i).toNat)
  case atStart => exact ⟨0, Nat.zero_le _, rfl, by rw [hc0.out]; rfl⟩
  case round =>
    obtain ⟨k, hk, rfl, rfl⟩ := hrel
    have hbk := hbd.out k (by have := hml.out; omega)
    generalize hck : foldR c0 (m.take k) = ck at *
    have HCK := Lib.hid hck
    clear hck
    obtain ⟨hbk0, hbk1⟩ := hbk
    by_cases hlt : k < 1
    · obtain ⟨x, HX⟩ : ∃ x, Hid (m[k]? = some x) := ⟨m[k]'(by have := hml.out; omega), List.getElem?_eq_getElem _⟩
      have hks : k + 1 < s.size := by omega
      have hsx : s[k + 1] = x := getk_of s (k + 1) x (hmx.out k x HX.out) hks
      have hx1 : (x.toNat : Int) < 256 := by have := x.toNat_lt; omega
      go_wp2_with fail
      go_round
      case rel =>
        have htk : m.take (k + 1) = m.take k ++ [x] := by
          have := HX.out
          rw [List.take_add_one, this]; rfl
        exact ⟨k + 1, by omega, by go_num, by rw [htk, foldR_snoc, HCK.out]⟩
      case measure => simp [intOf]; omega
    · obtain rfl : k = 1 := by omega
      have hfull : m.take 1 = m := List.take_of_length_le (by have := hml.out; omega)
      have HCK' : Hid (foldR c0 m = ck) := by have := HCK.out; rw [hfull] at this; exact this
      clear hfull
      by_cases hch : charB ck = true
      · have hpf : putF ck = enc ck := by unfold putF; rw [if_pos hch]
        have HPF := Lib.hid hpf
        clear hpf
        by_cases hq : (putF ck == (s.extract 0 2).toList) = true
        · have hv : Hid (V = (ck, 2)) := by
            have hq' : (enc ck == b :: m) = true := by rw [← HPF.out, ← hm0.out]; exact hq
            show V = (ck, 2)
            rw [hV.out, HCK'.out, hch, hq']; rfl
          go_wp2_with (go_at_call 114; refine (RPut_any _ _).mono ?_; rintro e w2 ⟨rfl, hb2⟩)
          go_ret2
          exact ⟨by rw [hv.out]; rfl, hb2⟩
        · have hq0 : (putF ck == (s.extract 0 2).toList) = false := by simpa using hq
          clear hq
          have hv : Hid (V = (-1, 0)) := by
            have hq' : (enc ck == b :: m) = false := by rw [← HPF.out, ← hm0.out]; exact hq0
            show V = (-1, 0)
            rw [hV.out, HCK'.out, hq']; simp
          go_wp2_with (go_at_call 114; refine (RPut_any _ _).mono ?_; rintro e w2 ⟨rfl, hb2⟩)
          go_ret2
          exact ⟨by rw [hv.out]; rfl, hb2⟩
      · have hch' : charB ck = false := by simpa using hch
        clear hch
        have hv : Hid (V = (-1, 0)) := by
          show V = (-1, 0)
          rw [hV.out, HCK'.out, hch']; simp
        go_wp2_with (go_at_call 114; refine (RPut_any _ _).mono ?_; rintro e w2 ⟨rfl, hb2⟩)
        go_ret2
        exact ⟨by rw [hv.out]; rfl, hb2⟩

set_option maxRecDepth 100000 in
set_option maxHeartbeats 1000000 in
theorem RNext_short_c (s : ByteArray) (w : World) (b : UInt8) (hs : s.size ≤ maxLen) (hp : 0 < s.size) (hne : s.toList.isEmpty = false) (he : s[0] = b) (hr0 : 224 ≤ (b.toNat : Int)) (hr1 : (b.toNat : Int) < 240) (hn : s.size < 3) :
    Calls Try.prog 112 #[.string s] w (Ret w (.tuple #[.int .i32 (-1), .int .i64 0])) := by
  unfold maxLen at hs
  have hb256 : (b.toNat : Int) < 256 := by have := b.toNat_lt; omega
  go_enter Try.func112, Try.ntmps112
  go_wp2_with fail
  go_ret2
  exact ⟨rfl, Below.refl _ _⟩

set_option maxRecDepth 100000 in
set_option maxHeartbeats 1000000 in
theorem RNext_good_c (s : ByteArray) (w : World) (b : UInt8) (c0 : Int) (m : List UInt8) (hs : s.size ≤ maxLen) (hp : 0 < s.size) (hne : s.toList.isEmpty = false) (he : s[0] = b) (hr0 : 224 ≤ (b.toNat : Int)) (hr1 : (b.toNat : Int) < 240) (hc0 : Hid (c0 = (b.toNat : Int) - 224))
    (hn : 3 ≤ s.size) (hml : Hid (m.length = 2)) (hm0 : Hid ((s.extract 0 3).toList = b :: m)) (hmx : Hid (∀ k x, m[k]? = some x → s.data.toList[k + 1]? = some x)) (hbd : Hid (∀ k, k ≤ m.length → -1000000 < foldR c0 (m.take k) ∧ foldR c0 (m.take k) < 4194304))
    (V : Int × Nat) (hV : Hid (V = if charB (foldR c0 m) && (enc (foldR c0 m) == b :: m) then (foldR c0 m, 3) else (-1, 0))) :
    Calls Try.prog 112 #[.string s] w (Ret w (.tuple #[.int .i32 V.1, .int .i64 (V.2 : Nat)])) := by
  unfold maxLen at hs
  have hb256 : (b.toNat : Int) < 256 := by have := b.toNat_lt; omega
  go_enter Try.func112, Try.ntmps112
  go_wp2_with fail
  go_loop [5, 6] (fun c i => ∃ k : Nat, k ≤ 2 ∧ i = .int .i64 ((k + 1 : Nat) : Int) ∧ c = .int .i32 (foldR c0 (m.take k))) (fun _ i => 5 - (intOf i).toNat)
  case atStart => exact ⟨0, Nat.zero_le _, rfl, by rw [hc0.out]; rfl⟩
  case round =>
    obtain ⟨k, hk, rfl, rfl⟩ := hrel
    have hbk := hbd.out k (by have := hml.out; omega)
    generalize hck : foldR c0 (m.take k) = ck at *
    have HCK := Lib.hid hck
    clear hck
    obtain ⟨hbk0, hbk1⟩ := hbk
    by_cases hlt : k < 2
    · obtain ⟨x, HX⟩ : ∃ x, Hid (m[k]? = some x) := ⟨m[k]'(by have := hml.out; omega), List.getElem?_eq_getElem _⟩
      have hks : k + 1 < s.size := by omega
      have hsx : s[k + 1] = x := getk_of s (k + 1) x (hmx.out k x HX.out) hks
      have hx1 : (x.toNat : Int) < 256 := by have := x.toNat_lt; omega
      go_wp2_with fail
      go_round
      case rel =>
        have htk : m.take (k + 1) = m.take k ++ [x] := by
          have := HX.out
          rw [List.take_add_one, this]; rfl
        exact ⟨k + 1, by omega, by go_num, by rw [htk, foldR_snoc, HCK.out]⟩
      case measure => simp [intOf]; omega
    · obtain rfl : k = 2 := by omega
      have hfull : m.take 2 = m := List.take_of_length_le (by have := hml.out; omega)
      have HCK' : Hid (foldR c0 m = ck) := by have := HCK.out; rw [hfull] at this; exact this
      clear hfull
      by_cases hch : charB ck = true
      · have hpf : putF ck = enc ck := by unfold putF; rw [if_pos hch]
        have HPF := Lib.hid hpf
        clear hpf
        by_cases hq : (putF ck == (s.extract 0 3).toList) = true
        · have hv : Hid (V = (ck, 3)) := by
            have hq' : (enc ck == b :: m) = true := by rw [← HPF.out, ← hm0.out]; exact hq
            show V = (ck, 3)
            rw [hV.out, HCK'.out, hch, hq']; rfl
          go_wp2_with (go_at_call 114; refine (RPut_any _ _).mono ?_; rintro e w2 ⟨rfl, hb2⟩)
          go_ret2
          exact ⟨by rw [hv.out]; rfl, hb2⟩
        · have hq0 : (putF ck == (s.extract 0 3).toList) = false := by simpa using hq
          clear hq
          have hv : Hid (V = (-1, 0)) := by
            have hq' : (enc ck == b :: m) = false := by rw [← HPF.out, ← hm0.out]; exact hq0
            show V = (-1, 0)
            rw [hV.out, HCK'.out, hq']; simp
          go_wp2_with (go_at_call 114; refine (RPut_any _ _).mono ?_; rintro e w2 ⟨rfl, hb2⟩)
          go_ret2
          exact ⟨by rw [hv.out]; rfl, hb2⟩
      · have hch' : charB ck = false := by simpa using hch
        clear hch
        have hv : Hid (V = (-1, 0)) := by
          show V = (-1, 0)
          rw [hV.out, HCK'.out, hch']; simp
        go_wp2_with (go_at_call 114; refine (RPut_any _ _).mono ?_; rintro e w2 ⟨rfl, hb2⟩)
        go_ret2
        exact ⟨by rw [hv.out]; rfl, hb2⟩

set_option maxRecDepth 100000 in
set_option maxHeartbeats 1000000 in
theorem RNext_short_d (s : ByteArray) (w : World) (b : UInt8) (hs : s.size ≤ maxLen) (hp : 0 < s.size) (hne : s.toList.isEmpty = false) (he : s[0] = b) (hr0 : 240 ≤ (b.toNat : Int)) (hr1 : (b.toNat : Int) < 248) (hn : s.size < 4) :
    Calls Try.prog 112 #[.string s] w (Ret w (.tuple #[.int .i32 (-1), .int .i64 0])) := by
  unfold maxLen at hs
  have hb256 : (b.toNat : Int) < 256 := by have := b.toNat_lt; omega
  go_enter Try.func112, Try.ntmps112
  go_wp2_with fail
  go_ret2
  exact ⟨rfl, Below.refl _ _⟩

set_option maxRecDepth 100000 in
set_option maxHeartbeats 1000000 in
theorem RNext_good_d (s : ByteArray) (w : World) (b : UInt8) (c0 : Int) (m : List UInt8) (hs : s.size ≤ maxLen) (hp : 0 < s.size) (hne : s.toList.isEmpty = false) (he : s[0] = b) (hr0 : 240 ≤ (b.toNat : Int)) (hr1 : (b.toNat : Int) < 248) (hc0 : Hid (c0 = (b.toNat : Int) - 240))
    (hn : 4 ≤ s.size) (hml : Hid (m.length = 3)) (hm0 : Hid ((s.extract 0 4).toList = b :: m)) (hmx : Hid (∀ k x, m[k]? = some x → s.data.toList[k + 1]? = some x)) (hbd : Hid (∀ k, k ≤ m.length → -1000000 < foldR c0 (m.take k) ∧ foldR c0 (m.take k) < 4194304))
    (V : Int × Nat) (hV : Hid (V = if charB (foldR c0 m) && (enc (foldR c0 m) == b :: m) then (foldR c0 m, 4) else (-1, 0))) :
    Calls Try.prog 112 #[.string s] w (Ret w (.tuple #[.int .i32 V.1, .int .i64 (V.2 : Nat)])) := by
  unfold maxLen at hs
  have hb256 : (b.toNat : Int) < 256 := by have := b.toNat_lt; omega
  go_enter Try.func112, Try.ntmps112
  go_wp2_with fail
  go_loop [5, 6] (fun c i => ∃ k : Nat, k ≤ 3 ∧ i = .int .i64 ((k + 1 : Nat) : Int) ∧ c = .int .i32 (foldR c0 (m.take k))) (fun _ i => 5 - (intOf i).toNat)
  case atStart => exact ⟨0, Nat.zero_le _, rfl, by rw [hc0.out]; rfl⟩
  case round =>
    obtain ⟨k, hk, rfl, rfl⟩ := hrel
    have hbk := hbd.out k (by have := hml.out; omega)
    generalize hck : foldR c0 (m.take k) = ck at *
    have HCK := Lib.hid hck
    clear hck
    obtain ⟨hbk0, hbk1⟩ := hbk
    by_cases hlt : k < 3
    · obtain ⟨x, HX⟩ : ∃ x, Hid (m[k]? = some x) := ⟨m[k]'(by have := hml.out; omega), List.getElem?_eq_getElem _⟩
      have hks : k + 1 < s.size := by omega
      have hsx : s[k + 1] = x := getk_of s (k + 1) x (hmx.out k x HX.out) hks
      have hx1 : (x.toNat : Int) < 256 := by have := x.toNat_lt; omega
      go_wp2_with fail
      go_round
      case rel =>
        have htk : m.take (k + 1) = m.take k ++ [x] := by
          have := HX.out
          rw [List.take_add_one, this]; rfl
        exact ⟨k + 1, by omega, by go_num, by rw [htk, foldR_snoc, HCK.out]⟩
      case measure => simp [intOf]; omega
    · obtain rfl : k = 3 := by omega
      have hfull : m.take 3 = m := List.take_of_length_le (by have := hml.out; omega)
      have HCK' : Hid (foldR c0 m = ck) := by have := HCK.out; rw [hfull] at this; exact this
      clear hfull
      by_cases hch : charB ck = true
      · have hpf : putF ck = enc ck := by unfold putF; rw [if_pos hch]
        have HPF := Lib.hid hpf
        clear hpf
        by_cases hq : (putF ck == (s.extract 0 4).toList) = true
        · have hv : Hid (V = (ck, 4)) := by
            have hq' : (enc ck == b :: m) = true := by rw [← HPF.out, ← hm0.out]; exact hq
            show V = (ck, 4)
            rw [hV.out, HCK'.out, hch, hq']; rfl
          go_wp2_with (go_at_call 114; refine (RPut_any _ _).mono ?_; rintro e w2 ⟨rfl, hb2⟩)
          go_ret2
          exact ⟨by rw [hv.out]; rfl, hb2⟩
        · have hq0 : (putF ck == (s.extract 0 4).toList) = false := by simpa using hq
          clear hq
          have hv : Hid (V = (-1, 0)) := by
            have hq' : (enc ck == b :: m) = false := by rw [← HPF.out, ← hm0.out]; exact hq0
            show V = (-1, 0)
            rw [hV.out, HCK'.out, hq']; simp
          go_wp2_with (go_at_call 114; refine (RPut_any _ _).mono ?_; rintro e w2 ⟨rfl, hb2⟩)
          go_ret2
          exact ⟨by rw [hv.out]; rfl, hb2⟩
      · have hch' : charB ck = false := by simpa using hch
        clear hch
        have hv : Hid (V = (-1, 0)) := by
          show V = (-1, 0)
          rw [hV.out, HCK'.out, hch']; simp
        go_wp2_with (go_at_call 114; refine (RPut_any _ _).mono ?_; rintro e w2 ⟨rfl, hb2⟩)
        go_ret2
        exact ⟨by rw [hv.out]; rfl, hb2⟩

set_option maxRecDepth 100000 in
set_option maxHeartbeats 1000000 in
theorem RNext_good_e (s : ByteArray) (w : World) (b : UInt8) (c0 : Int) (m : List UInt8) (hs : s.size ≤ maxLen) (hp : 0 < s.size) (hne : s.toList.isEmpty = false) (he : s[0] = b) (hr0 : 248 ≤ (b.toNat : Int)) (hc0 : Hid (c0 = (b.toNat : Int)))
    (_hn : 1 ≤ s.size) (hml : Hid (m.length = 0)) (hm0 : Hid ((s.extract 0 1).toList = b :: m)) (_hmx : Hid (∀ k x, m[k]? = some x → s.data.toList[k + 1]? = some x)) (hbd : Hid (∀ k, k ≤ m.length → -1000000 < foldR c0 (m.take k) ∧ foldR c0 (m.take k) < 4194304))
    (V : Int × Nat) (hV : Hid (V = if charB (foldR c0 m) && (enc (foldR c0 m) == b :: m) then (foldR c0 m, 1) else (-1, 0))) :
    Calls Try.prog 112 #[.string s] w (Ret w (.tuple #[.int .i32 V.1, .int .i64 (V.2 : Nat)])) := by
  unfold maxLen at hs
  have hb256 : (b.toNat : Int) < 256 := by have := b.toNat_lt; omega
  go_enter Try.func112, Try.ntmps112
  go_wp2_with fail
  go_loop [5, 6] (fun c i => ∃ k : Nat, k ≤ 0 ∧ i = .int .i64 ((k + 1 : Nat) : Int) ∧ c = .int .i32 (foldR c0 (m.take k))) (fun _ i => 5 - (intOf i).toNat)
  case atStart => exact ⟨0, Nat.zero_le _, rfl, by rw [hc0.out]; rfl⟩
  case round =>
    obtain ⟨k, hk, rfl, rfl⟩ := hrel
    have hbk := hbd.out k (by have := hml.out; omega)
    generalize hck : foldR c0 (m.take k) = ck at *
    have HCK := Lib.hid hck
    clear hck
    obtain ⟨hbk0, hbk1⟩ := hbk
    by_cases hlt : k < 0
    · omega
    · obtain rfl : k = 0 := by omega
      have hfull : m.take 0 = m := List.take_of_length_le (by have := hml.out; omega)
      have HCK' : Hid (foldR c0 m = ck) := by have := HCK.out; rw [hfull] at this; exact this
      clear hfull
      by_cases hch : charB ck = true
      · have hpf : putF ck = enc ck := by unfold putF; rw [if_pos hch]
        have HPF := Lib.hid hpf
        clear hpf
        by_cases hq : (putF ck == (s.extract 0 1).toList) = true
        · have hv : Hid (V = (ck, 1)) := by
            have hq' : (enc ck == b :: m) = true := by rw [← HPF.out, ← hm0.out]; exact hq
            show V = (ck, 1)
            rw [hV.out, HCK'.out, hch, hq']; rfl
          go_wp2_with (go_at_call 114; refine (RPut_any _ _).mono ?_; rintro e w2 ⟨rfl, hb2⟩)
          go_ret2
          exact ⟨by rw [hv.out]; rfl, hb2⟩
        · have hq0 : (putF ck == (s.extract 0 1).toList) = false := by simpa using hq
          clear hq
          have hv : Hid (V = (-1, 0)) := by
            have hq' : (enc ck == b :: m) = false := by rw [← HPF.out, ← hm0.out]; exact hq0
            show V = (-1, 0)
            rw [hV.out, HCK'.out, hq']; simp
          go_wp2_with (go_at_call 114; refine (RPut_any _ _).mono ?_; rintro e w2 ⟨rfl, hb2⟩)
          go_ret2
          exact ⟨by rw [hv.out]; rfl, hb2⟩
      · have hch' : charB ck = false := by simpa using hch
        clear hch
        have hv : Hid (V = (-1, 0)) := by
          show V = (-1, 0)
          rw [hV.out, HCK'.out, hch']; simp
        go_wp2_with (go_at_call 114; refine (RPut_any _ _).mono ?_; rintro e w2 ⟨rfl, hb2⟩)
        go_ret2
        exact ⟨by rw [hv.out]; rfl, hb2⟩

/-- The document's Next: any text. -/
theorem RNext_any (s : ByteArray) (w : World) (hs : s.size ≤ maxLen) :
    Calls Try.prog 112 #[.string s] w (Ret w (.tuple #[.int .i32 (nextL s.data.toList).1, .int .i64 ((nextL s.data.toList).2 : Nat)])) := by
  have hsz := size_toList s
  cases hl : s.data.toList with
  | nil => exact RNext_nil s w (by rw [ByteArray.toList_eq, hl]; rfl)
  | cons b t =>
    have hp : 0 < s.size := by rw [← hsz, hl]; simp
    have hne : s.toList.isEmpty = false := by rw [ByteArray.toList_eq, hl]; rfl
    have he := get0_of s b t hl hp
    have hlen : t.length + 1 = s.size := by rw [← hsz, hl]; rfl
    have hb256 : (b.toNat : Int) < 256 := by have := b.toNat_lt; omega
    have hx0 : ∀ n, (s.extract 0 (n + 1)).toList = b :: t.take n := fun n => by
      rw [ByteArray.toList_eq, Lib.extract_data, hl]; rfl
    have hmx : ∀ n k x, (t.take n)[k]? = some x → s.data.toList[k + 1]? = some x := fun n k x h => by
      rw [hl, List.getElem?_cons_succ]
      rw [List.getElem?_take] at h
      split at h
      · exact h
      · cases h
    have hv := rnext_eq b t
    have hbd := fun (n : Nat) (hn : (t.take n).length + 1 ≤ rN b.toNat) => foldR_bd b.toNat (by omega) (t.take n) hb256 hn
    generalize hV : nextL (b :: t) = V at *
    rcases (by omega : (b.toNat : Int) < 192 ∨ (192 ≤ (b.toNat : Int) ∧ (b.toNat : Int) < 224) ∨ (224 ≤ (b.toNat : Int) ∧ (b.toNat : Int) < 240) ∨ (240 ≤ (b.toNat : Int) ∧ (b.toNat : Int) < 248) ∨ 248 ≤ (b.toNat : Int)) with h | ⟨h, h'⟩ | ⟨h, h'⟩ | ⟨h, h'⟩ | h
    · have e1 : rN b.toNat = 1 := by unfold rN; repeat (first | rw [if_pos (by omega)] | rw [if_neg (by omega)])
      have e2 : rC b.toNat = (b.toNat : Int) := by unfold rC; repeat (first | rw [if_pos (by omega)] | rw [if_neg (by omega)])
      rw [e1, e2] at hv
      rw [e1, e2] at hbd
      by_cases hlt : t.length + 1 < 1
      · omega
      · rw [if_neg hlt] at hv
        have hml : (t.take 0).length = 0 := by rw [List.length_take]; omega
        exact RNext_good_a s w b _ (t.take 0) hs hp hne he h rfl (by omega) hml (hx0 0) (hmx 0) (hbd 0 (by omega)) V hv.symm
    · have e1 : rN b.toNat = 2 := by unfold rN; repeat (first | rw [if_pos (by omega)] | rw [if_neg (by omega)])
      have e2 : rC b.toNat = (b.toNat : Int) - 192 := by unfold rC; repeat (first | rw [if_pos (by omega)] | rw [if_neg (by omega)])
      rw [e1, e2] at hv
      rw [e1, e2] at hbd
      by_cases hlt : t.length + 1 < 2
      · rw [if_pos hlt] at hv
        rw [← hv]
        exact RNext_short_b s w b hs hp hne he h h' (by omega)
      · rw [if_neg hlt] at hv
        have hml : (t.take 1).length = 1 := by rw [List.length_take]; omega
        exact RNext_good_b s w b _ (t.take 1) hs hp hne he h h' rfl (by omega) hml (hx0 1) (hmx 1) (hbd 1 (by omega)) V hv.symm
    · have e1 : rN b.toNat = 3 := by unfold rN; repeat (first | rw [if_pos (by omega)] | rw [if_neg (by omega)])
      have e2 : rC b.toNat = (b.toNat : Int) - 224 := by unfold rC; repeat (first | rw [if_pos (by omega)] | rw [if_neg (by omega)])
      rw [e1, e2] at hv
      rw [e1, e2] at hbd
      by_cases hlt : t.length + 1 < 3
      · rw [if_pos hlt] at hv
        rw [← hv]
        exact RNext_short_c s w b hs hp hne he h h' (by omega)
      · rw [if_neg hlt] at hv
        have hml : (t.take 2).length = 2 := by rw [List.length_take]; omega
        exact RNext_good_c s w b _ (t.take 2) hs hp hne he h h' rfl (by omega) hml (hx0 2) (hmx 2) (hbd 2 (by omega)) V hv.symm
    · have e1 : rN b.toNat = 4 := by unfold rN; repeat (first | rw [if_pos (by omega)] | rw [if_neg (by omega)])
      have e2 : rC b.toNat = (b.toNat : Int) - 240 := by unfold rC; repeat (first | rw [if_pos (by omega)] | rw [if_neg (by omega)])
      rw [e1, e2] at hv
      rw [e1, e2] at hbd
      by_cases hlt : t.length + 1 < 4
      · rw [if_pos hlt] at hv
        rw [← hv]
        exact RNext_short_d s w b hs hp hne he h h' (by omega)
      · rw [if_neg hlt] at hv
        have hml : (t.take 3).length = 3 := by rw [List.length_take]; omega
        exact RNext_good_d s w b _ (t.take 3) hs hp hne he h h' rfl (by omega) hml (hx0 3) (hmx 3) (hbd 3 (by omega)) V hv.symm
    · have e1 : rN b.toNat = 1 := by unfold rN; repeat (first | rw [if_pos (by omega)] | rw [if_neg (by omega)])
      have e2 : rC b.toNat = (b.toNat : Int) := by unfold rC; repeat (first | rw [if_pos (by omega)] | rw [if_neg (by omega)])
      rw [e1, e2] at hv
      rw [e1, e2] at hbd
      by_cases hlt : t.length + 1 < 1
      · omega
      · rw [if_neg hlt] at hv
        have hml : (t.take 0).length = 0 := by rw [List.length_take]; omega
        exact RNext_good_e s w b _ (t.take 0) hs hp hne he h rfl (by omega) hml (hx0 0) (hmx 0) (hbd 0 (by omega)) V hv.symm
end Go.Proofs.Ythifddkmbjnncaa

/-
  The plain law of references and of what is undone: no program in sight.
-/
namespace Go.Proofs.Ythifddkmbjnncaa

def digitV (base x : Int) : Int :=
  if 48 ≤ x ∧ x ≤ 57 then x - 48
  else if base = 16 ∧ 97 ≤ x ∧ x ≤ 102 then x - 87
  else if base = 16 ∧ 65 ≤ x ∧ x ≤ 70 then x - 55
  else -1

theorem digitV_bd (base x : Int) : -1 ≤ digitV base x ∧ digitV base x < 16 := by
  unfold digitV
  repeat (first | split | omega)
theorem digitV_10 (x : Int) : digitV 10 x < 10 := by
  unfold digitV
  repeat (first | split | omega)

/-- the digits of a number: how many were read, its value so far -/
def scanL (base : Int) : Nat → Int → List UInt8 → Option (Int × Nat)
  | _, _, [] => none
  | k, c, x :: r => if x = 59 ∧ 0 < k then some (c, k) else if digitV base x.toNat < 0 ∨ 7 ≤ k then none else scanL base (k + 1) (c * base + digitV base x.toNat) r

def pre (p l : List UInt8) : Bool := l.take p.length == p

def pick (n : Nat) : Option (Int × Nat) → Int × Nat
  | some (c, k) => (c, n + k + 1)
  | none => (0, 0)

/-- the reference that a text begins with: its number, how many bytes it has -/
def refL (l : List UInt8) : Int × Nat :=
  if pre [38, 97, 109, 112, 59] l then (38, 5)
  else if pre [38, 108, 116, 59] l then (60, 4)
  else if pre [38, 103, 116, 59] l then (62, 4)
  else if pre [38, 113, 117, 111, 116, 59] l then (34, 6)
  else if pre [38, 97, 112, 111, 115, 59] l then (39, 6)
  else if pre [38, 35] l then
    if pre [38, 35, 120] l then pick 3 (scanL 16 0 0 (l.drop 3)) else pick 2 (scanL 10 0 0 (l.drop 2))
  else (0, 0)

theorem pre_len {p l : List UInt8} (h : pre p l = true) : p.length ≤ l.length := by
  have := congrArg List.length (eq_of_beq h)
  rw [List.length_take] at this
  omega

theorem scanL_le (base : Int) : ∀ (l : List UInt8) (k : Nat) (c : Int) (q : Int × Nat), scanL base k c l = some q → q.2 < k + l.length ∧ q.2 ≤ 7 ∧ k ≤ q.2 ∨ q.2 = k ∧ q.2 < k + l.length := by
  intro l
  induction l with
  | nil => intro k c q h; simp [scanL] at h
  | cons x r ih =>
    intro k c q h
    simp only [scanL] at h
    split at h
    · injection h with h; subst h; right; simp
    · split at h
      · cases h
      · rename_i hk
        rcases ih _ _ _ h with h' | h'
        · left; simp only [List.length_cons]; omega
        · left; simp only [List.length_cons]; omega

theorem refL_le (l : List UInt8) : (refL l).2 ≤ l.length := by
  unfold refL
  have key : ∀ (n : Nat) (base : Int), n ≤ l.length → (pick n (scanL base 0 0 (l.drop n))).2 ≤ l.length := fun n base hn => by
    cases h : scanL base 0 0 (l.drop n) with
    | none => simp [pick]
    | some q =>
      have := scanL_le base _ _ _ _ h
      rw [List.length_drop] at this
      simp only [pick]; omega
  split
  · rename_i h; exact pre_len h
  split
  · rename_i h; exact pre_len h
  split
  · rename_i h; exact pre_len h
  split
  · rename_i h; exact pre_len h
  split
  · rename_i h; exact pre_len h
  split
  · rename_i h
    split
    · rename_i h'; exact key 3 16 (pre_len h')
    · exact key 2 10 (pre_len h)
  · simp

/-- one step of what is undone: an error's number, or bytes and how many were read -/
def stepL (v : Bool) (l : List UInt8) : Int ⊕ (List UInt8 × Nat) :=
  let q := nextL l
  if 0 < q.2 ∧ (q.1 = 60 ∨ q.1 = 62) then .inl 20
  else if q.2 = 0 ∨ q.1 = 13 ∨ (v = true ∧ (q.1 = 34 ∨ q.1 = 9 ∨ q.1 = 10)) then .inl 21
  else
    let r := if q.1 = 38 then refL l else q
    if r.2 = 0 then .inl 20 else if charB r.1 = false then .inl 21 else .inr (putF r.1, r.2)

theorem stepL_pos {v : Bool} {l t : List UInt8} {n : Nat} (h : stepL v l = .inr (t, n)) : 1 ≤ n ∧ n ≤ l.length ∧ t.length ≤ 4 := by
  simp only [stepL] at h
  split at h
  · cases h
  split at h
  · cases h
  have hr : (if (nextL l).fst = 38 then refL l else nextL l).2 ≤ l.length := by
    split
    · exact refL_le l
    · exact (nextL_le l).1
  generalize (if (nextL l).fst = 38 then refL l else nextL l) = r at h hr
  split at h
  · cases h
  split at h
  · cases h
  · injection h with h
    injection h with ht hn
    exact ⟨by omega, by omega, by rw [← ht]; exact putF_len _⟩

/-- what is undone, with fuel: the text, the place, the error's number (0: none) -/
def undoF (v : Bool) : Nat → List UInt8 → List UInt8 × Nat × Int
  | 0, _ => ([], 0, 0)
  | f + 1, l =>
    if l = [] then ([], 0, 0)
    else match stepL v l with
      | .inl e => ([], 0, e)
      | .inr (t, n) =>
        let r := undoF v f (l.drop n)
        if r.2.2 = 0 then (t ++ r.1, n + r.2.1, 0) else ([], n + r.2.1, r.2.2)

theorem undoF_more (v : Bool) (f : Nat) : ∀ (l : List UInt8) (g : Nat), l.length ≤ f → l.length ≤ g → undoF v f l = undoF v g l := by
  induction f with
  | zero =>
    intro l g h _
    obtain rfl : l = [] := List.eq_nil_of_length_eq_zero (by omega)
    cases g <;> simp [undoF]
  | succ f ih =>
    intro l g h h'
    by_cases hl : l = []
    · subst hl; cases g <;> simp [undoF]
    · have hp : 0 < l.length := List.length_pos_iff.2 hl
      obtain ⟨g, rfl⟩ : ∃ g', g = g' + 1 := ⟨g - 1, by omega⟩
      simp only [undoF, if_neg hl]
      cases hs : stepL v l with
      | inl e => rfl
      | inr q =>
        obtain ⟨t, n⟩ := q
        have := stepL_pos hs
        simp only
        rw [ih (l.drop n) g (by rw [List.length_drop]; omega) (by rw [List.length_drop]; omega)]

def undoL (v : Bool) (l : List UInt8) : List UInt8 × Nat × Int := undoF v l.length l

/-- what stands ahead, and what comes behind -/
def joinU (acc : List UInt8) (at_ : Nat) (r : List UInt8 × Nat × Int) : List UInt8 × Nat × Int :=
  if r.2.2 = 0 then (acc ++ r.1, at_ + r.2.1, 0) else ([], at_ + r.2.1, r.2.2)

theorem undoL_nil (v : Bool) : undoL v [] = ([], 0, 0) := rfl
theorem undoL_bad (v : Bool) (l : List UInt8) (h : l ≠ []) (e : Int) (hs : stepL v l = .inl e) : undoL v l = ([], 0, e) := by
  unfold undoL
  have hp : 0 < l.length := List.length_pos_iff.2 h
  obtain ⟨f, hf⟩ : ∃ f, l.length = f + 1 := ⟨l.length - 1, by omega⟩
  rw [hf]
  simp only [undoF, if_neg h, hs]
theorem undoL_step (v : Bool) (l : List UInt8) (h : l ≠ []) (t : List UInt8) (n : Nat) (hs : stepL v l = .inr (t, n)) : undoL v l = joinU t n (undoL v (l.drop n)) := by
  unfold undoL joinU
  have hp : 0 < l.length := List.length_pos_iff.2 h
  obtain ⟨f, hf⟩ : ∃ f, l.length = f + 1 := ⟨l.length - 1, by omega⟩
  have := stepL_pos hs
  rw [hf]
  simp only [undoF, if_neg h, hs]
  rw [undoF_more v f (l.drop n) (l.drop n).length (by rw [List.length_drop]; omega) (Nat.le_refl _)]

theorem joinU_nil (r : List UInt8 × Nat × Int) (h : r.2.2 ≠ 0 → r.1 = []) : joinU [] 0 r = r := by
  obtain ⟨a, b, c⟩ := r
  unfold joinU
  by_cases hc : c = 0
  · subst hc; simp
  · have ha : a = [] := h hc
    subst ha; simp [hc]
theorem joinU_join (a b : List UInt8) (m n : Nat) (r : List UInt8 × Nat × Int) : joinU a m (joinU b n r) = joinU (a ++ b) (m + n) r := by
  obtain ⟨x, y, z⟩ := r
  unfold joinU
  by_cases hz : z = 0
  · subst hz; simp; omega
  · simp [hz]; omega

theorem undoF_shape (v : Bool) (f : Nat) : ∀ l, (undoF v f l).2.2 ≠ 0 → (undoF v f l).1 = [] := by
  induction f with
  | zero => intro l h; rfl
  | succ f ih =>
    intro l h
    simp only [undoF] at h ⊢
    split
    · rfl
    · rename_i hl
      rw [if_neg hl] at h
      cases hs : stepL v l with
      | inl e => rfl
      | inr q =>
        obtain ⟨t, n⟩ := q
        simp only [hs] at h ⊢
        by_cases hr : (undoF v f (l.drop n)).2.2 = 0
        · simp [hr] at h
        · simp [hr]
theorem undoL_shape (v : Bool) (l : List UInt8) : (undoL v l).2.2 ≠ 0 → (undoL v l).1 = [] := undoF_shape v _ l
end Go.Proofs.Ythifddkmbjnncaa

/-
  The walks of the document's All, escaped, Text and Value.
-/
namespace Go.Proofs.Ythifddkmbjnncaa
open Go.RowKit

theorem infoRune : (Try.prog.info? 21).map (fun i => (i.zero, i.size, i.bytes)) = some (some (.int .i32 0), 1, 4) := by kernel_rfl

theorem RNext_as (s : ByteArray) (w : World) (hs : s.size ≤ maxLen) (c : Int) (n : Nat) (h : Hid (nextL s.data.toList = (c, n))) :
    Calls Try.prog 112 #[.string s] w (Ret w (.tuple #[.int .i32 c, .int .i64 (n : Nat)])) := by
  have := RNext_any s w hs
  rw [h.out] at this
  exact this

/-- A list of numbers of the call's own. -/
def OwnRunes (w w' : World) (v : Value) (cs : List Int) : Prop := w'.ownsRow w.heap.size 21 1 v cs.length (cs.map (Value.int .i32))
def AllPost (w : World) (r : Option (List Int)) (e : Ending) (w' : World) : Prop :=
  ∃ ad c, e = .returned (.tuple #[.slice ad (r.getD []).length c, .bool r.isSome]) ∧ OwnRunes w w' (.slice ad (r.getD []).length c) (r.getD []) ∧ Below w.heap.size w w'

set_option maxRecDepth 100000 in
set_option maxHeartbeats 1000000 in
theorem RAll_any (s : ByteArray) (w : World) (hs : s.size ≤ 1000000000) :
    Calls Try.prog 108 #[.string s] w (AllPost w (charsL s.data.toList)) := by
  go_enter Try.func108, Try.ntmps108
  go_wp2_with fail
  go_loopw [0, 4] (fun sv v wr => ∃ (t : ByteArray) (acc : List Int) (ad : Option Addr) (cp : Nat), sv = .string t ∧ v = .slice ad acc.length cp ∧ t.size ≤ s.size ∧ Hid (charsL s.data.toList = (charsL t.data.toList).map (acc ++ ·)) ∧ acc.length + t.size ≤ s.size ∧
      wr.ownsRow w.heap.size 21 1 (.slice ad acc.length cp) acc.length (acc.map (Value.int .i32)) ∧ Below w.heap.size w wr) (fun sv _ _ => (strOf sv).size)
  case atStart =>
    refine ⟨s, [], none, 0, rfl, rfl, Nat.le_refl _, ?_, by simp, World.ownsRow_nil _ _ _ _, Below.refl _ _⟩
    show _ = _
    cases charsL s.data.toList <;> simp
  case round =>
    obtain ⟨t, acc, ad, cp, rfl, rfl, hts, hesc, hal, hown, hbel⟩ := hrel
    have hwz := hbel.size
    have hl := size_toList t
    by_cases he : t.toList.isEmpty = true
    · have hnil : t.data.toList = [] := by rw [ByteArray.toList_eq] at he; simpa using he
      have hv : Hid (charsL s.data.toList = some acc) := by
        show _ = _
        rw [hesc.out, hnil, charsL_nil]; simp
      go_wp2_with fail
      go_ret2
      refine ⟨ad, cp, ?_, ?_, hbel⟩
      · rw [hv.out]; rfl
      · rw [hv.out]; exact hown
    · have hne : t.toList.isEmpty = false := by simpa using he
      clear he
      have hnn : Hid (t.data.toList ≠ []) := by
        intro h
        rw [ByteArray.toList_eq, h] at hne
        cases hne
      obtain ⟨c, n, hq⟩ : ∃ c n, Hid (nextL t.data.toList = (c, n)) := ⟨_, _, rfl⟩
      have hle := nextL_le t.data.toList
      rw [hq.out] at hle
      obtain ⟨hn1, hn4⟩ := hle
      rw [hl] at hn1
      simp only at hn1 hn4
      by_cases hn : n = 0
      · have hv : Hid (charsL s.data.toList = none) := by
          show _ = _
          rw [hesc.out, charsL_bad _ hnn.out (by rw [hq.out]; exact hn)]; rfl
        have hn0 : ((n : Int) == 0) = true := by simp [hn]
        clear hn
        go_wp2_with (go_at_call 112; refine (RNext_as t wr (by unfold maxLen; omega) c n hq).mono ?_; rintro e w2 ⟨rfl, hb2⟩)
        go_ret2
        refine ⟨none, 0, ?_, ?_, hbel.trans (hb2.mono (by omega))⟩
        · rw [hv.out]; rfl
        · rw [hv.out]; exact World.ownsRow_nil _ _ _ _
      · have hn0 : ((n : Int) == 0) = false := by simp [hn]
        have hesc' := charsL_step t.data.toList hnn.out (by rw [hq.out]; exact hn)
        rw [hq.out] at hesc'
        have HS := Lib.hid hesc'
        clear hesc'
        have hnp : 1 ≤ n := by omega
        clear hn
        go_wp2_with fail
        refine (RNext_as t wr (by unfold maxLen; omega) c n hq).mono ?_
        rintro e w2 ⟨rfl, hb2⟩
        have hz2 := hb2.size
        have hown2 := own_below hown hb2
        go_wp2_with (at_builtin; refine append1 rfl (.tmp 16) (.tmp 18) 130 rfl w.heap.size 21 (.int .i32 0) 4 Try.underlying130 infoRune rfl _ _ _ (.int .i32 c) rfl hown2 (by omega) _ rfl (by simp) rfl (by omega) (by omega) ?_)
        intro g cp2 w3 hown3 hb3 hz3
        go_wp2
        go_roundw
        case rel =>
          have hx : (t.extract n t.size).data.toList = t.data.toList.drop n := Lib.extract_to_end t n
          have hxs : (t.extract n t.size).size = t.size - n := by simp
          refine ⟨t.extract n t.size, acc ++ [c], some ⟨g, 0, none⟩, cp2, rfl, ?_, by omega, ?_, ?_, ?_, ?_⟩
          · rw [List.length_append]; rfl
          · show _ = _
            rw [hesc.out, HS.out, hx]
            cases charsL (t.data.toList.drop n) <;> simp
          · rw [List.length_append, hxs]; simp; omega
          · rw [List.length_append, List.map_append]; exact hown3
          · exact (hbel.trans (hb2.mono (by omega))).trans hb3
        case measure =>
          have hxs : (t.extract n t.size).size = t.size - n := by simp
          show (t.extract n t.size).size < t.size
          omega

theorem charsF_len (f : Nat) : ∀ l cs, charsF f l = some cs → cs.length ≤ l.length := by
  induction f with
  | zero =>
    intro l cs h
    simp only [charsF] at h
    split at h
    · injection h with h; subst h; simp
    · cases h
  | succ f ih =>
    intro l cs h
    simp only [charsF] at h
    split at h
    · injection h with h; subst h; simp
    · split at h
      · cases h
      · rename_i hl hn
        cases hr : charsF f (l.drop (nextL l).2) with
        | none => rw [hr] at h; cases h
        | some ds =>
          rw [hr] at h
          injection h with h
          subst h
          have := ih _ _ hr
          have := (nextL_le l).1
          rw [List.length_drop] at *
          simp only [List.length_cons]; omega
theorem charsL_len (l : List UInt8) (cs : List Int) (h : charsL l = some cs) : cs.length ≤ l.length := charsF_len _ l cs h

end Go.Proofs.Ythifddkmbjnncaa

/-
  The walks of glyph.each without conditions, glyph.Count, ref01.Count, parse.chars, ref04.chars.
-/
namespace Go.Proofs.Ythifddkmbjnncaa
open Go.RowKit

set_option maxRecDepth 100000 in
set_option maxHeartbeats 1000000 in
theorem each_none (s : ByteArray) (w : World) (hs : s.size ≤ maxLen) :
    Calls Try.prog 44 #[.string s, .slice none 0 0] w (Ret w (.int .i64 (countL s.data.toList))) := by
  unfold maxLen at hs
  go_enter Try.func44, Try.ntmps44
  go_wp2_with fail
  go_loopw [0, 5] (fun sv mv wr => ∃ (t : ByteArray) (k : Nat), sv = .string t ∧ mv = .int .i64 k ∧ k + t.size ≤ s.size ∧ Hid (charsL s.data.toList = none ↔ charsL t.data.toList = none) ∧ Hid (∀ cs, charsL t.data.toList = some cs → countL s.data.toList = k + cs.length) ∧ Below w.heap.size w wr) (fun sv _ _ => (strOf sv).size)
  case atStart =>
    refine ⟨s, 0, rfl, rfl, by omega, Iff.rfl, ?_, Below.refl _ _⟩
    intro cs hcs
    unfold countL; rw [hcs]; simp
  case round =>
    obtain ⟨t, k, rfl, rfl, hkt, hno, hyes, hbel⟩ := hrel
    have hwr := hbel.size
    have HL := Lib.hid (size_toList t)
    by_cases he : t.toList.isEmpty = true
    · have hnil : t.data.toList = [] := by rw [ByteArray.toList_eq] at he; simpa using he
      have hv : Hid (countL s.data.toList = k) := by
        have := hyes.out [] (by rw [hnil]; rfl)
        show _ = _
        rw [this]; simp
      clear hnil
      go_wp2_with fail
      go_ret
      exact ⟨by rw [hv.out]; rfl, hbel⟩
    · have hne : t.toList.isEmpty = false := by simpa using he
      clear he
      have hnn : Hid (t.data.toList ≠ []) := by
        intro h
        rw [ByteArray.toList_eq, h] at hne
        cases hne
      obtain ⟨c, n, hq⟩ : ∃ c n, Hid (nextL t.data.toList = (c, n)) := ⟨_, _, rfl⟩
      have hle := nextL_le t.data.toList
      rw [hq.out, HL.out] at hle
      obtain ⟨hn1, hn4⟩ := hle
      simp only at hn1 hn4
      by_cases hn : n = 0
      · have hv : Hid (countL s.data.toList = -1) := by
          have := hno.out.2 (charsL_bad _ hnn.out (by rw [hq.out]; exact hn))
          show _ = _
          unfold countL; rw [this]
        have hn0 : ((n : Int) == 0) = true := by simp [hn]
        clear hn
        go_wp2_with (go_at_call 77; refine (Next_as t wr (by unfold maxLen; omega) c n hq).mono ?_; rintro e w2 ⟨rfl, hb2⟩)
        go_ret
        exact ⟨by rw [hv.out]; rfl, hbel.trans (hb2.mono (by omega))⟩
      · have hn0 : ((n : Int) == 0) = false := by simp [hn]
        have hst := charsL_step t.data.toList hnn.out (by rw [hq.out]; exact hn)
        rw [hq.out] at hst
        have HS := Lib.hid hst
        clear hst
        have hnp : 1 ≤ n := by omega
        clear hn
        go_wp2_with fail
        refine (Next_as t wr (by unfold maxLen; omega) c n hq).mono ?_
        rintro e w2 ⟨rfl, hb2⟩
        obtain ⟨wo, rfl⟩ : ∃ wo : World, wo = wr := ⟨_, rfl⟩
        go_wp2_with fail
        refine wp_loop_rounds 1 ?_
        rw [rounds_succ]
        go_wp2_with fail
        go_roundw
        case rel =>
          have hx : (t.extract n t.size).data.toList = t.data.toList.drop n := Lib.extract_to_end t n
          have hxs : (t.extract n t.size).size = t.size - n := by simp
          refine ⟨t.extract n t.size, k + 1, rfl, by go_num, by omega, ?_, ?_, hbel.trans (hb2.mono (by omega))⟩
          · show _ ↔ _
            rw [hno.out, HS.out, hx]
            cases charsL (t.data.toList.drop n) <;> simp
          · intro cs hcs
            rw [hx] at hcs
            have := hyes.out (c :: cs) (by rw [HS.out, hcs]; rfl)
            rw [this, List.length_cons]; omega
        case measure =>
          have hxs : (t.extract n t.size).size = t.size - n := by simp
          show (t.extract n t.size).size < t.size
          omega

theorem Count_any (s : ByteArray) (w : World) (hs : s.size ≤ maxLen) :
    Calls Try.prog 22 #[.string s] w (Ret w (.int .i64 (countL s.data.toList))) := by
  go_enter Try.func22, Try.ntmps22
  go_wp2_with (go_at_call 44; refine (each_none s _ hs).mono ?_; rintro e w2 ⟨rfl, hb2⟩)
  go_ret
  exact ⟨rfl, hb2⟩

theorem Count_as (s : ByteArray) (w : World) (hs : s.size ≤ maxLen) (n : Int) (h : Hid (countL s.data.toList = n)) :
    Calls Try.prog 22 #[.string s] w (Ret w (.int .i64 n)) := by
  have := Count_any s w hs
  rw [h.out] at this
  exact this


set_option maxRecDepth 100000 in
set_option maxHeartbeats 1000000 in
theorem RCount_as (s : ByteArray) (w : World) (hs : s.size ≤ 1000000000) (n : Int) (h : Hid (countL s.data.toList = n)) :
    Calls Try.prog 132 #[.string s] w (Ret w (.int .i64 n)) := by
  obtain ⟨r, hr⟩ : ∃ r, Hid (charsL s.data.toList = r) := ⟨_, rfl⟩
  have hn := h.out
  unfold countL at hn
  rw [hr.out] at hn
  subst hn
  cases r with
  | none =>
    go_enter Try.func132, Try.ntmps132
    go_wp2_with fail
    refine (RAll_any s w hs).mono ?_
    rw [hr.out]
    rintro e w2 ⟨ad, cp, rfl, hown, hb2⟩
    clear hown
    go_wp2_with fail
    go_ret
    exact ⟨rfl, hb2⟩
  | some cs =>
    go_enter Try.func132, Try.ntmps132
    go_wp2_with fail
    refine (RAll_any s w hs).mono ?_
    rw [hr.out]
    rintro e w2 ⟨ad, cp, rfl, hown, hb2⟩
    clear hown
    go_wp2_with fail
    go_ret
    exact ⟨rfl, hb2⟩

set_option maxRecDepth 100000 in
set_option maxHeartbeats 1000000 in
theorem chars_as (s : ByteArray) (w : World) (hs : s.size ≤ maxLen) (n : Int) (h : Hid (charsE s.data.toList = n)) :
    Calls Try.prog 82 #[.string s] w (Ret w (.int .i64 n)) := by
  obtain ⟨c, hc⟩ : ∃ c, Hid (countL s.data.toList = c) := ⟨_, rfl⟩
  have hn := h.out
  unfold charsE at hn
  rw [hc.out, size_toList] at hn
  by_cases h1 : c < 0
  · have hv : Hid (n = 64) := by show _ = _; rw [← hn, if_pos h1]
    clear hn
    go_enter Try.func82, Try.ntmps82
    go_wp2_with (go_at_call 22; refine (Count_as s _ hs _ hc).mono ?_; rintro e w2 ⟨rfl, hb2⟩)
    go_ret
    exact ⟨by rw [hv.out]; rfl, hb2⟩
  · rw [if_neg h1] at hn
    by_cases h2 : 1500 < s.size
    · have hv : Hid (n = 67) := by show _ = _; rw [← hn, if_pos h2]
      have h2' : (1500 : Int) < s.size := by omega
      clear hn h2
      go_enter Try.func82, Try.ntmps82
      go_wp2_with (go_at_call 22; refine (Count_as s _ hs _ hc).mono ?_; rintro e w2 ⟨rfl, hb2⟩)
      go_ret
      exact ⟨by rw [hv.out]; rfl, hb2⟩
    · have hv : Hid (n = 0) := by show _ = _; rw [← hn, if_neg h2]
      have h2' : (s.size : Int) ≤ 1500 := by omega
      clear hn h2
      go_enter Try.func82, Try.ntmps82
      go_wp2_with (go_at_call 22; refine (Count_as s _ hs _ hc).mono ?_; rintro e w2 ⟨rfl, hb2⟩)
      go_ret
      exact ⟨by rw [hv.out]; rfl, hb2⟩

set_option maxRecDepth 100000 in
set_option maxHeartbeats 1000000 in
theorem rchars_as (s : ByteArray) (w : World) (hs : s.size ≤ 1000000000) (n : Int) (h : Hid (charsE s.data.toList = n)) :
    Calls Try.prog 104 #[.string s] w (Ret w (.int .i64 n)) := by
  obtain ⟨c, hc⟩ : ∃ c, Hid (countL s.data.toList = c) := ⟨_, rfl⟩
  have hn := h.out
  unfold charsE at hn
  rw [hc.out, size_toList] at hn
  by_cases h1 : c < 0
  · have hv : Hid (n = 64) := by show _ = _; rw [← hn, if_pos h1]
    clear hn
    go_enter Try.func104, Try.ntmps104
    go_wp2_with (go_at_call 132; refine (RCount_as s _ hs _ hc).mono ?_; rintro e w2 ⟨rfl, hb2⟩)
    go_ret
    exact ⟨by rw [hv.out]; rfl, hb2⟩
  · rw [if_neg h1] at hn
    by_cases h2 : 1500 < s.size
    · have hv : Hid (n = 67) := by show _ = _; rw [← hn, if_pos h2]
      have h2' : (1500 : Int) < s.size := by omega
      clear hn h2
      go_enter Try.func104, Try.ntmps104
      go_wp2_with (go_at_call 132; refine (RCount_as s _ hs _ hc).mono ?_; rintro e w2 ⟨rfl, hb2⟩)
      go_ret
      exact ⟨by rw [hv.out]; rfl, hb2⟩
    · have hv : Hid (n = 0) := by show _ = _; rw [← hn, if_neg h2]
      have h2' : (s.size : Int) ≤ 1500 := by omega
      clear hn h2
      go_enter Try.func104, Try.ntmps104
      go_wp2_with (go_at_call 132; refine (RCount_as s _ hs _ hc).mono ?_; rintro e w2 ⟨rfl, hb2⟩)
      go_ret
      exact ⟨by rw [hv.out]; rfl, hb2⟩
end Go.Proofs.Ythifddkmbjnncaa

/-
  The walk of parse.names.
-/
namespace Go.Proofs.Ythifddkmbjnncaa
open Go.RowKit

theorem Name_l (s : List UInt8) (w : World) (hs : s.length ≤ 1000000000) (r : Bool) (hr : Hid (nameL s = r)) :
    Calls Try.prog 21 #[.string ⟨s.toArray⟩] w (Ret w (.bool r)) := Name_any _ w (by show s.toArray.size ≤ maxLen; unfold maxLen; simp; omega) r hr
theorem chars_l (s : List UInt8) (w : World) (hs : s.length ≤ 1000000000) (n : Int) (h : Hid (charsE s = n)) :
    Calls Try.prog 82 #[.string ⟨s.toArray⟩] w (Ret w (.int .i64 n)) := chars_as _ w (by show s.toArray.size ≤ maxLen; unfold maxLen; simp; omega) n h
theorem rchars_l (s : List UInt8) (w : World) (hs : s.length ≤ 1000000000) (n : Int) (h : Hid (charsE s = n)) :
    Calls Try.prog 104 #[.string ⟨s.toArray⟩] w (Ret w (.int .i64 n)) := rchars_as _ w (by show s.toArray.size ≤ _; simp; omega) n h

set_option maxRecDepth 100000 in
set_option maxHeartbeats 2000000 in
theorem names_any (x : ItemD) (A : Option Addr) (c : Nat) (w : World) (hA : AttrsAt w w.heap.size A x.attrs) (hs : SmallItem x) (V : Int) (hV : Hid (namesE x = V)) :
    Calls Try.prog 83 #[.agg (itemVal x A c)] w (Ret w (.int .i64 V)) := by
  obtain ⟨hs1, hs2, hs3, hs4, hs5⟩ := hs
  have HS4 := Lib.hid hs4
  have HA := Lib.hid hA
  clear hs4 hA hs5
  have hV' := hV.out
  unfold namesE at hV'
  clear hV
  unfold itemVal strV
  cases hn : nameL x.name with
  | false =>
    have HN : Hid (nameL x.name = false) := hn
    have hv : Hid (V = 63) := by show _ = _; rw [← hV', hn]; rfl
    clear hV' hn
    go_enter Try.func83, Try.ntmps83
    go_wp2_with fail
    refine (Name_l _ _ hs1 _ HN).mono ?_; rintro e w2 ⟨rfl, hb2⟩
    go_wp2_with fail
    go_ret
    exact ⟨by rw [hv.out]; rfl, ((Below.refl _ w).alloc (Nat.le_refl _) _).trans (hb2.mono (by simp))⟩
  | true =>
    have HN : Hid (nameL x.name = true) := hn
    rw [hn, Bool.true_and] at hV'
    clear hn
    obtain ⟨R, hR⟩ : ∃ R, Hid (attrNames [] x.attrs = R) := ⟨_, rfl⟩
    rw [hR.out] at hV'
    have HV := Lib.hid hV'
    clear hV'
    go_enter Try.func83, Try.ntmps83
    go_wp2_with fail
    obtain ⟨w1, hw1⟩ : ∃ w1, Hid (w1 = w.alloc (.cells #[.int .i64 x.level, .int .i64 x.kind, .string ⟨x.name.toArray⟩, .string ⟨x.text.toArray⟩, .slice A x.attrs.length c] 50)) := ⟨_, rfl⟩
    have hbw1 : Below w.heap.size w w1 := by rw [hw1.out]; exact (Below.refl _ w).alloc (Nat.le_refl _) _
    have hz1 : w.heap.size < w1.heap.size := by rw [hw1.out]; simp
    have hcell1 : Hid (w1.cell? ⟨w.heap.size, 4, none⟩ = some (.slice A x.attrs.length c)) := by
      show _ = _
      rw [hw1.out, World.cell?_alloc_at _ _ _ _ (by simp)]; rfl
    rw [← hw1.out]
    refine (Name_l _ _ hs1 _ HN).mono ?_; rintro e w2 ⟨rfl, hb2⟩
    have hz2 := hb2.size
    have hc4 : w2.cell? ⟨w.heap.size, 4, none⟩ = some (.slice A x.attrs.length c) := by
      rw [hb2.cell (p := ⟨w.heap.size, 4, none⟩) hz1]; exact hcell1.out
    go_wp2_with fail
    go_loopw [3, 13] (fun last i wr => ∃ (k : Nat) (l : List UInt8), k ≤ x.attrs.length ∧ i = .int .i64 k ∧ last = .string ⟨l.toArray⟩ ∧ Hid (attrNames l (x.attrs.drop k) = R) ∧ Below w2.heap.size w2 wr) (fun _ i _ => x.attrs.length - (intOf i).toNat)
    case atStart => exact ⟨0, [], Nat.zero_le _, rfl, rfl, hR, Below.refl _ _⟩
    case round =>
      obtain ⟨k, l, hk, rfl, rfl, hin, hbel⟩ := hrel
      have hzr := hbel.size
      have hbwr : Below w.heap.size w wr := (hbw1.trans (hb2.mono (by omega))).trans (hbel.mono (by omega))
      by_cases hlt : k < x.attrs.length
      · obtain ⟨a, ha⟩ : ∃ a, Hid (x.attrs[k]? = some a) := ⟨x.attrs[k], List.getElem?_eq_getElem _⟩
        obtain ⟨ad, hAd, hbl, hcs⟩ := (HA.out.below hbwr) (by omega)
        obtain ⟨hc0, hc1⟩ := hcs k a ha.out
        unfold strV at hc0 hc1
        clear hcs
        have hin' := hin.out
        rw [drop_cons ha.out, attrNames] at hin'
        have hnm := (HS4.out k a ha.out).1
        subst hAd
        have hlt' : (k : Int) < x.attrs.length := by omega
        cases hq : nameL a.name with
        | false =>
          have HQ : Hid (nameL a.name = false) := hq
          have hv : Hid (V = 63) := by
            show _ = _
            rw [hq] at hin'
            have hR' : R = false := hin'.symm
            rw [← HV.out, hR']; rfl
          clear hin' hq
          go_wp2_with fail
          refine (Name_l _ _ hnm _ HQ).mono ?_; rintro e w3 ⟨rfl, hb3⟩
          have hz3 := hb3.size
          simp only [World.size_alloc] at hz3
          go_wp2_with fail
          go_ret
          exact ⟨by rw [hv.out]; rfl, (hbwr.alloc (by omega) _).trans (hb3.mono (by simp; omega))⟩
        | true =>
          have HQ : Hid (nameL a.name = true) := hq
          rw [hq, Bool.true_and] at hin'
          clear hq
          have hcell3 : ∀ w3, Below (wr.alloc (Obj.cells #[Value.string ⟨a.name.toArray⟩, Value.string ⟨a.value.toArray⟩] 44)).heap.size (wr.alloc (Obj.cells #[Value.string ⟨a.name.toArray⟩, Value.string ⟨a.value.toArray⟩] 44)) w3 → w3.cell? ⟨wr.heap.size, 0, none⟩ = some (.string ⟨a.name.toArray⟩) := fun w3 hb3 => by
            rw [hb3.cell (p := ⟨wr.heap.size, 0, none⟩) (by simp), World.cell?_alloc_at _ _ _ _ (by simp)]; rfl
          have HC3 := Lib.hid hcell3
          clear hcell3
          obtain ⟨b1, hb1⟩ : ∃ b1, Op.bytesLess a.name l = b1 := ⟨_, rfl⟩
          obtain ⟨b2, hb2'⟩ : ∃ b2, (a.name == l) = b2 := ⟨_, rfl⟩
          have hle : leB a.name l = (b1 || b2) := by unfold leB; rw [hb1, hb2']
          rw [hle] at hin'
          clear hle
          cases hbb : (b1 || b2) with
          | true =>
            have hv : Hid (V = 63) := by
              show _ = _
              rw [hbb] at hin'
              have hR' : R = false := hin'.symm
              rw [← HV.out, hR']; rfl
            clear hin'
            go_wp2_with fail
            refine (Name_l _ _ hnm _ HQ).mono ?_; rintro e w3 ⟨rfl, hb3⟩
            have hz3 := hb3.size
            have hcell3 := HC3.out w3 hb3
            simp only [World.size_alloc] at hz3
            go_wp2_with fail
            go_ret
            exact ⟨by rw [hv.out]; rfl, (hbwr.alloc (by omega) _).trans (hb3.mono (by simp; omega))⟩
          | false =>
            rw [hbb] at hin'
            have hin2 : Hid (attrNames a.name (x.attrs.drop (k + 1)) = R) := hin'
            clear hin'
            go_wp2_with fail
            refine (Name_l _ _ hnm _ HQ).mono ?_; rintro e w3 ⟨rfl, hb3⟩
            have hz3 := hb3.size
            have hcell3 := HC3.out w3 hb3
            simp only [World.size_alloc] at hz3
            go_wp2_with fail
            go_roundw
            case rel => exact ⟨k + 1, a.name, by omega, by go_num, rfl, hin2, (hbel.alloc (by omega) _).trans (hb3.mono (by simp; omega))⟩
            case measure => simp [intOf]; omega
      · have hk' : k = x.attrs.length := by omega
        have hR' : R = true := by
          rw [← hin.out, List.drop_eq_nil_of_le (by omega)]; rfl
        have hv' := HV.out
        rw [hR'] at hv'
        subst hk'
        have hc4r : wr.cell? ⟨w.heap.size, 4, none⟩ = some (.slice A x.attrs.length c) := by
          rw [hbel.cell (p := ⟨w.heap.size, 4, none⟩) (by show w.heap.size < _; omega)]; exact hc4
        by_cases h20 : 20 < x.attrs.length
        · have hv : Hid (V = 67) := by show _ = _; rw [← hv', if_pos rfl, if_pos h20]
          have h20' : (20 : Int) < x.attrs.length := by omega
          clear hv' h20
          go_wp2_with fail
          go_ret
          exact ⟨by rw [hv.out]; rfl, hbwr⟩
        · have hv : Hid (V = 0) := by show _ = _; rw [← hv', if_pos rfl, if_neg h20]
          have h20' : (x.attrs.length : Int) ≤ 20 := by omega
          clear hv' h20
          go_wp2_with fail
          go_ret
          exact ⟨by rw [hv.out]; rfl, hbwr⟩
end Go.Proofs.Ythifddkmbjnncaa

/-
  Rows of structs of a call's own: their cells, one more element at the end, one cell written.
-/
namespace Go.Proofs.Ythifddkmbjnncaa
open Go.RowKit

/-! Rows laid out flat. -/
theorem flat_length {α β : Type} (f : α → List β) (n : Nat) (hf : ∀ a, (f a).length = n) : ∀ l : List α, (l.flatMap f).length = l.length * n
  | [] => by simp
  | a :: l => by rw [List.flatMap_cons, List.length_append, hf, flat_length f n hf l, List.length_cons, Nat.add_mul]; omega
theorem flat_get {α β : Type} (f : α → List β) (n : Nat) (hf : ∀ a, (f a).length = n) : ∀ (l : List α) (k j : Nat) (a : α), l[k]? = some a → j < n → (l.flatMap f)[k * n + j]? = (f a)[j]?
  | [], k, j, a, h, _ => by simp at h
  | b :: l, 0, j, a, h, hj => by
    simp at h; subst h
    rw [List.flatMap_cons, List.getElem?_append_left (by rw [hf]; omega)]
    simp
  | b :: l, k + 1, j, a, h, hj => by
    rw [List.flatMap_cons, List.getElem?_append_right (by rw [hf, Nat.add_mul]; omega)]
    have e : (k + 1) * n + j - (f b).length = k * n + j := by rw [hf, Nat.add_mul]; omega
    rw [e]
    exact flat_get f n hf l k j a (by simpa using h) hj
theorem flat_set {α β : Type} (f : α → List β) (n : Nat) (hf : ∀ a, (f a).length = n) (l : List α) (k j : Nat) (a a' : α) (v : β) (h : l[k]? = some a) (hj : j < n) (hs : f a' = (f a).set j v) :
    (l.flatMap f).set (k * n + j) v = (l.set k a').flatMap f := by
  apply List.ext_getElem?
  intro i
  rw [List.getElem?_set]
  have hk : k < l.length := (List.getElem?_eq_some_iff.1 h).1
  have hlen := flat_length f n hf l
  have hlen' := flat_length f n hf (l.set k a')
  rw [List.length_set] at hlen'
  by_cases hi : i < l.length * n
  · have hn : 0 < n := by omega
    obtain ⟨q, r, hr, rfl⟩ : ∃ q r, r < n ∧ i = q * n + r := ⟨i / n, i % n, Nat.mod_lt _ hn, by rw [Nat.mul_comm]; exact (Nat.div_add_mod i n).symm⟩
    have hq : q < l.length := by
      rcases Nat.lt_or_ge q l.length with h | h
      · exact h
      · have := Nat.mul_le_mul_right n h; omega
    by_cases hqk : q = k
    · subst hqk
      have e1 : (l.set q a')[q]? = some a' := by rw [List.getElem?_set]; simp [hq]
      rw [flat_get f n hf _ q r a' e1 hr, flat_get f n hf l q r a h hr, hs, List.getElem?_set]
      by_cases hrj : j = r
      · subst hrj
        rw [if_pos rfl, if_pos rfl, hf, if_pos hj, hlen]
        rw [if_pos hi]
      · rw [if_neg (by omega), if_neg hrj]
    · have e1 : (l.set k a')[q]? = l[q]? := by rw [List.getElem?_set]; rw [if_neg (Ne.symm hqk)]
      have e2 : l[q]? = some l[q] := List.getElem?_eq_getElem hq
      rw [flat_get f n hf _ q r _ (e1.trans e2) hr, flat_get f n hf l q r _ e2 hr]
      rw [if_neg]
      intro he
      rcases Nat.lt_or_ge q k with hlt | hge
      · have := Nat.mul_le_mul_right n (show q + 1 ≤ k by omega)
        rw [Nat.add_mul] at this; omega
      · have := Nat.mul_le_mul_right n (show k + 1 ≤ q by omega)
        rw [Nat.add_mul] at this; omega
  · have r1 : ((l.set k a').flatMap f)[i]? = none := List.getElem?_eq_none (by rw [hlen']; omega)
    have r2 : (l.flatMap f)[i]? = none := List.getElem?_eq_none (by rw [hlen]; omega)
    rw [r1, r2]
    by_cases he : k * n + j = i
    · rw [if_pos he, if_neg (by rw [hlen]; omega)]
    · rw [if_neg he]

/-! What an owned row reads as. -/
theorem own_flat {α : Type} {w : World} {B : Nat} {e : TypeId} {n : Nat} {ad : Option Addr} {c : Nat} {l : List α} (f : α → List Value) (hf : ∀ a, (f a).length = n) (h : w.ownsRow B e n (.slice ad l.length c) l.length (l.flatMap f)) :
    0 < l.length → ∃ g, ad = some ⟨g, 0, none⟩ ∧ B ≤ g ∧ g < w.heap.size ∧ (∃ cur, w.heap[g]? = some (.cells cur e (0, 0))) ∧ ∀ k a j u, l[k]? = some a → (f a)[j]? = some u → w.cell? ((⟨g, 0, none⟩ : Addr).add (k * n + j)) = some u := by
  intro hl
  rcases h.2 with ⟨_, h0⟩ | ⟨g, cap, cur, hv, hb, hc, _⟩
  · omega
  · injection hv with hv h2 h3
    subst hv
    refine ⟨g, rfl, hb, (Array.getElem?_eq_some_iff.1 hc).1, ⟨cur, hc⟩, fun k a j u hk hu => ?_⟩
    have hj : j < n := by rw [← hf a]; exact (List.getElem?_eq_some_iff.1 hu).1
    refine h.cells (g := g) rfl _ u ?_
    rw [flat_get f n hf l k j a hk hj]; exact hu

/-- The block that a row of the call's own stands in is of the row's own type. -/
theorem own_type {w : World} {B : Nat} {e : TypeId} {size : Nat} {v : Value} {n : Nat} {xs : List Value} (h : w.ownsRow B e size v n xs) : ∀ g, v.ownBlock = some g → B ≤ g ∧ g < w.heap.size ∧ ∃ cur, w.heap[g]? = some (.cells cur e (0, 0)) := by
  intro g hg
  rcases h.2 with ⟨rfl, _⟩ | ⟨g', cap, cur, rfl, hb, hc, _⟩
  · cases hg
  · injection hg with hg
    have hg : g' = g := hg
    subst hg
    exact ⟨hb, (Array.getElem?_eq_some_iff.1 hc).1, cur, hc⟩

/-- Rows of two types never share a block. -/
theorem own_apart {w : World} {B B' : Nat} {e e' : TypeId} {size size' : Nat} {v v' : Value} {n n' : Nat} {xs xs' : List Value} (h : w.ownsRow B e size v n xs) (h' : w.ownsRow B' e' size' v' n' xs') (he : e ≠ e') : v.ownBlock = none ∨ v.ownBlock ≠ v'.ownBlock := by
  cases hv : v.ownBlock with
  | none => exact .inl rfl
  | some g =>
    refine .inr fun hg => ?_
    obtain ⟨_, _, cur, hc⟩ := own_type h g hv
    obtain ⟨_, _, cur', hc'⟩ := own_type h' g hg.symm
    rw [hc] at hc'
    injection hc' with hc'
    injection hc' with _ hc'
    exact he hc'

/-- append(s, x), x a struct of 'size' cells, to a slice that is the call's own. -/
theorem appendS {P : Program} {w : World} {ops : Array Oper} {rest : List Oper} {o : Oper} {a : Act} {Q : Exit → Act → World → Prop} (hgd : o.guard = none) (s x : Operand) (t : TypeId)
    (ho : o.op = .call { callee := .builtin .append, args := #[s, x], argTypes := #[t, t] })
    (B : Nat) (e : TypeId) (z : Value) (size bytes : Nat) (ht : P.underlying t = some (.slice e)) (hi : (P.info? e).map (fun i => (i.zero, i.size, i.bytes)) = some (some z, size, bytes))
    (hzs : z.cells.size = size) (hsz : 0 < size)
    (v : Value) (n : Nat) (xs : List Value) (news : List Value) (hs : a.eval s = v) (hown : w.ownsRow B e size v n xs) (hB : B ≤ w.heap.size)
    (X : Nat) (hx : a.eval x = .slice (some ⟨X, 0, none⟩) 1 1) (hX : X = w.heap.size) (hnl : news.length = size) (hu : ∀ u ∈ news, u.oneCell' = true) (hn : n < 4294967296) (hby : bytes ≤ 10000)
    (h : ∀ ad c w', w'.ownsRow B e size (.slice ad (n + 1) c) (n + 1) (xs ++ news) → Below B w w' → w.heap.size < w'.heap.size → (w.alloc (.cells news.toArray e)).grownBy w' v.ownBlock → wpList P ops Q rest (a.put o.dst (.slice ad (n + 1) c)) w') :
    wpList P ops Q (o :: rest) a (w.alloc (.cells news.toArray e)) := by
  subst hX
  obtain ⟨i0, hi0, hz0, hz1, hz2⟩ := info_parts hi
  refine wpList_append_own _ hgd s x t ho B e i0 z size bytes ht hi0 hz0 hz1 hz2 hzs hsz v n xs hs (hown.alloc _) ⟨w.heap.size, 0, none⟩ 1 1 news hx (by rw [hnl]; omega) ?_ hu
    (by unfold maxLen; omega) ?_ (by simp; omega) ?_
  · intro j u hj
    have e : (⟨w.heap.size, 0, none⟩ : Addr).add j = ⟨w.heap.size, j, none⟩ := by unfold Addr.add; split <;> simp_all
    have hjl : j < news.length := (List.getElem?_eq_some_iff.1 hj).1
    rw [e, World.cell?_alloc_at _ _ _ _ (by simp)]
    simp [hj]
  · have : (n + 1) * bytes ≤ 4294967296 * 10000 := Nat.mul_le_mul (by omega) hby
    omega
  · intro v' w' hown' hg _
    obtain ⟨ad, c, rfl⟩ : ∃ ad c, v' = .slice ad (n + 1) c := by
      rcases hown'.2 with ⟨_, h0⟩ | ⟨g, c, cur, hv, _⟩
      · omega
      · exact ⟨_, c, hv⟩
    have hsz' := hg.size
    simp at hsz'
    exact h ad c w' hown' (((Below.refl B w).alloc hB _).grown hg (by simp; omega) (fun k hk => (hown.lt k hk).1)) (by omega) hg

/-- A row stands where what grows is a row of another type, or nothing was known of it. -/
theorem own_grown {w w' : World} {B B' : Nat} {e e' : TypeId} {size size' : Nat} {v v' : Value} {n n' : Nat} {xs xs' : List Value} (h : w.ownsRow B e size v n xs) (h' : w.ownsRow B' e' size' v' n' xs') (he : e ≠ e') (hg : w.grownBy w' v'.ownBlock) : w'.ownsRow B e size v n xs :=
  h.kept hg (own_apart h h' he)

/-- One cell of a row of the call's own is written. -/
theorem own_stored {w : World} {B : Nat} {e : TypeId} {size g n c : Nat} {xs : List Value} (h : w.ownsRow B e size (.slice (some ⟨g, 0, none⟩) n c) n xs) (j : Nat) (u : Value) : (w.setCell ⟨g, j, none⟩ u).ownsRow B e size (.slice (some ⟨g, 0, none⟩) n c) n (xs.set j u) := (h.stored j u).1
end Go.Proofs.Ythifddkmbjnncaa

/-
  Items and attributes of a call's own.
-/
namespace Go.Proofs.Ythifddkmbjnncaa
open Go.RowKit

def cellsA (a : AttrD) : List Value := [strV a.name, strV a.value]
/-- An item, and where its attributes stand. -/
abbrev Slot := ItemD × Option Addr × Nat
def cellsI (s : Slot) : List Value := [.int .i64 s.1.level, .int .i64 s.1.kind, strV s.1.name, strV s.1.text, .slice s.2.1 s.1.attrs.length s.2.2]
theorem cellsA_length (a : AttrD) : (cellsA a).length = 2 := rfl
theorem cellsI_length (s : Slot) : (cellsI s).length = 5 := rfl

/-- Attributes of the call's own. -/
def AttrsOwn (w : World) (B : Nat) (A : Option Addr) (c : Nat) (l : List AttrD) : Prop := w.ownsRow B 44 2 (.slice A l.length c) l.length (l.flatMap cellsA)
def ItemsOwn (w : World) (B : Nat) (A : Option Addr) (c : Nat) (S : List Slot) : Prop := w.ownsRow B 50 5 (.slice A S.length c) S.length (S.flatMap cellsI)

theorem add_zero_block (g k : Nat) : ((⟨g, 0, none⟩ : Addr).add k) = ⟨g, k, none⟩ := by unfold Addr.add; split <;> simp_all

theorem AttrsOwn.at {w : World} {B : Nat} {A : Option Addr} {c : Nat} {l : List AttrD} (h : AttrsOwn w B A c l) : AttrsAt w w.heap.size A l := fun hl => by
  obtain ⟨g, rfl, hb, hg, _, hc⟩ := own_flat cellsA cellsA_length h hl
  refine ⟨_, rfl, hg, fun k a ha => ⟨?_, ?_⟩⟩
  · have := hc k a 0 (strV a.name) ha rfl
    simpa using this
  · have := hc k a 1 (strV a.value) ha rfl
    rw [add_zero_block] at this ⊢
    exact this
theorem AttrsOwn.cap {w : World} {B : Nat} {A : Option Addr} {c : Nat} {l : List AttrD} (h : AttrsOwn w B A c l) : l.length ≤ c := by
  rcases h.2 with ⟨h1, h2⟩ | ⟨g, cap, cur, h1, _, _, h4, _⟩
  · omega
  · injection h1 with _ _ h3; omega
theorem ItemsOwn.at {w : World} {B : Nat} {A : Option Addr} {c : Nat} {S : List Slot} (h : ItemsOwn w B A c S) (ha : ∀ s ∈ S, AttrsAt w w.heap.size s.2.1 s.1.attrs ∧ s.1.attrs.length ≤ s.2.2) : ItemsAt w w.heap.size A (S.map (·.1)) := fun hl => by
  have hl' : 0 < S.length := by simpa using hl
  obtain ⟨g, rfl, hb, hg, _, hc⟩ := own_flat cellsI cellsI_length h hl'
  refine ⟨_, rfl, hg, fun k x hx => ?_⟩
  rw [List.getElem?_map] at hx
  obtain ⟨s, hs, rfl⟩ := Option.map_eq_some_iff.1 hx
  obtain ⟨h1, h2⟩ := ha s (List.mem_of_getElem? hs)
  have e : ∀ j u, (cellsI s)[j]? = some u → w.cell? ⟨g, k * 5 + j, none⟩ = some u := fun j u hu => by
    have := hc k s j u hs hu
    rwa [add_zero_block] at this
  refine ⟨s.2.1, s.2.2, h1, h2, ?_⟩
  rw [add_zero_block]
  exact ⟨e 0 _ rfl, e 1 _ rfl, e 2 _ rfl, e 3 _ rfl, e 4 _ rfl⟩

theorem infoAttr : (Try.prog.info? 44).map (fun i => (i.zero, i.size, i.bytes)) = some (some (.agg #[.string ByteArray.empty, .string ByteArray.empty]), 2, 32) := by kernel_rfl
theorem infoItem : (Try.prog.info? 50).map (fun i => (i.zero, i.size, i.bytes)) = some (some (.agg #[.int .i64 0, .int .i64 0, .string ByteArray.empty, .string ByteArray.empty, .slice none 0 0]), 5, 72) := by kernel_rfl

theorem AttrsAt.flat {w : World} {B : Nat} {ad : Addr} {l : List AttrD} (h : AttrsAt w B (some ad) l) : ∀ j u, (l.flatMap cellsA)[j]? = some u → w.cell? (ad.add j) = some u := by
  intro j u hu
  have hlen := flat_length cellsA 2 cellsA_length l
  have hj : j < l.length * 2 := by rw [← hlen]; exact (List.getElem?_eq_some_iff.1 hu).1
  obtain ⟨q, r, hr, rfl⟩ : ∃ q r, r < 2 ∧ j = q * 2 + r := ⟨j / 2, j % 2, by omega, by omega⟩
  have hq : q < l.length := by omega
  have hx : l[q]? = some l[q] := List.getElem?_eq_getElem hq
  rw [flat_get cellsA 2 cellsA_length l q r _ hx hr] at hu
  obtain ⟨ad', e, _, hc⟩ := h (by omega)
  injection e with e; subst e
  obtain ⟨h0, h1⟩ := hc q _ hx
  match r, hr, hu with
  | 0, _, hu => injection hu with hu; subst hu; exact h0
  | 1, _, hu =>
    injection hu with hu; subst hu
    have : ad.add (q * 2 + 1) = ⟨(ad.add (q * 2)).block, (ad.add (q * 2)).off + 1, none⟩ := by
      rw [← add_of_add]; rfl
    rw [this]; exact h1

theorem cellsA_one (l : List AttrD) : ∀ u ∈ l.flatMap cellsA, u.oneCell' = true := by
  intro u hu
  obtain ⟨a, _, ha⟩ := List.mem_flatMap.1 hu
  simp [cellsA, strV] at ha
  rcases ha with rfl | rfl <;> rfl

def ClonePost (w : World) (l : List AttrD) (e : Ending) (w' : World) : Prop := ∃ A c, e = .returned (.slice A l.length c) ∧ AttrsOwn w' w.heap.size A c l ∧ Below w.heap.size w w'

end Go.Proofs.Ythifddkmbjnncaa

/-
  A struct that is handed back by value: what a result's cell holds, alone and ahead of three slots.
-/
namespace Go.Proofs.Ythifddkmbjnncaa
open Go.RowKit

theorem results_cell3 {P : Program} {fn : Func} {p u v x : Tmp} {ty : TypeId} (h : fn.results = #[.cell p ty, .tmp u, .tmp v, .tmp x]) (tmps : Array Value) (w : World) (g : Nat) (t : TypeId) (cs : Array Value) (fr : Nat × Nat) (d : TypeDesc)
    (hp : tmps.getD p undef = .pointer (some ⟨g, 0, none⟩)) (hg : w.heap[g]? = some (.cells cs t fr))
    (hu : P.underlying ty = some d) (hd : (match d with | .struct _ | .array _ _ => true | _ => false) = true) (hi : (P.info? ty).map (·.size) = some cs.size) :
    (results fn tmps).run P w = .ok (.tuple #[.agg cs, tmps.getD u undef, tmps.getD v undef, tmps.getD x undef]) w := by
  have hp' : tmps[p]?.getD undef = .pointer (some ⟨g, 0, none⟩) := by simpa using hp
  simp [results, h, hp', asAddr, Result.andThen, run_loadVar_row w g t ty cs fr d hg hu hd hi]
theorem row_base {w : World} {B B' : Nat} {e : TypeId} {size : Nat} {v : Value} {n : Nat} {xs : List Value} (h : w.ownsRow B e size v n xs) (hB : B' ≤ B) : w.ownsRow B' e size v n xs := by
  refine ⟨h.1, ?_⟩
  rcases h.2 with h | ⟨g, cap, cur, h1, h2, h3⟩
  · exact .inl h
  · exact .inr ⟨g, cap, cur, h1, Nat.le_trans hB h2, h3⟩
/-- a row stands where another block is written whole -/
theorem row_setRow {w : World} {B g : Nat} {e : TypeId} {size : Nat} {v : Value} {n : Nat} {xs : List Value} (h : w.ownsRow B e size v n xs) (hg : g < B) (cs : Array Value) : (w.setRow g cs).ownsRow B e size v n xs := by
  refine ⟨h.1, ?_⟩
  rcases h.2 with h | ⟨g', cap, cur, h1, h2, h3, h4⟩
  · exact .inl h
  · exact .inr ⟨g', cap, cur, h1, h2, by rw [setRow_other _ _ _ _ (by omega)]; exact h3, h4⟩
end Go.Proofs.Ythifddkmbjnncaa

/-
  The plain law of documents made normal: no program in sight.
-/
namespace Go.Proofs.Ythifddkmbjnncaa

def nstep (out : List ItemD) (x : ItemD) : List ItemD :=
  if x.kind = 2 ∧ x.text = [] then out
  else match out[out.length - 1]? with
    | none => out ++ [x]
    | some p => if x.kind = 2 ∧ p.kind = 2 ∧ p.level = x.level then out.set (out.length - 1) { p with text := p.text ++ x.text } else out ++ [x]
def normalL (l : List ItemD) : List ItemD := l.foldl nstep []

theorem nstep_void {out : List ItemD} {x : ItemD} (h1 : x.kind = 2) (h2 : x.text = []) : nstep out x = out := by unfold nstep; rw [if_pos ⟨h1, h2⟩]
theorem nstep_first {x : ItemD} (h : ¬ (x.kind = 2 ∧ x.text = [])) : nstep [] x = [x] := by unfold nstep; rw [if_neg h]; rfl
theorem nstep_join {out : List ItemD} {x p : ItemD} (hp : out[out.length - 1]? = some p) (h1 : x.kind = 2) (h2 : x.text ≠ []) (h3 : p.kind = 2) (h4 : p.level = x.level) : nstep out x = out.set (out.length - 1) { p with text := p.text ++ x.text } := by
  unfold nstep; rw [if_neg (fun h => h2 h.2), hp]; exact if_pos ⟨h1, h3, h4⟩
theorem nstep_more {out : List ItemD} {x p : ItemD} (hp : out[out.length - 1]? = some p) (h : ¬ (x.kind = 2 ∧ x.text = [])) (h' : ¬ (x.kind = 2 ∧ p.kind = 2 ∧ p.level = x.level)) : nstep out x = out ++ [x] := by
  unfold nstep; rw [if_neg h, hp]; exact if_neg h'

theorem nstep_app {out : List ItemD} {x : ItemD} (h : ¬ (x.kind = 2 ∧ x.text = [])) (h' : ∀ p, out[out.length - 1]? = some p → ¬ (x.kind = 2 ∧ p.kind = 2 ∧ p.level = x.level)) : nstep out x = out ++ [x] := by
  unfold nstep; rw [if_neg h]
  split
  · rfl
  · rename_i p hp
    exact if_neg (h' p hp)

/-- the bytes of all texts together -/
def textSum (l : List ItemD) : Nat := (l.map (·.text.length)).sum
theorem textSum_snoc (l : List ItemD) (x : ItemD) : textSum (l ++ [x]) = textSum l + x.text.length := by simp [textSum]
theorem textSum_take {l : List ItemD} {k : Nat} {x : ItemD} (hx : l[k]? = some x) : textSum (l.take (k + 1)) = textSum (l.take k) + x.text.length := by
  have hk : k < l.length := (List.getElem?_eq_some_iff.1 hx).1
  rw [List.take_add_one, hx]
  simp [textSum]
theorem textSum_append (l m : List ItemD) : textSum (l ++ m) = textSum l + textSum m := by simp [textSum]
theorem textSum_take_le (l : List ItemD) (k : Nat) : textSum (l.take k) ≤ textSum l := by
  have := textSum_append (l.take k) (l.drop k)
  rw [List.take_append_drop] at this
  omega

def SmallDoc (l : List ItemD) : Prop := SmallItems l ∧ textSum l ≤ 1000000000

/-- what is made normal: its items are of the row's, but for their texts -/
theorem normal_step_mem (P : ItemD → Prop) {out : List ItemD} {x : ItemD} {T : Nat} (ho : ∀ y ∈ out, P { y with text := [] } ∧ y.text.length ≤ T) (hx : P { x with text := [] }) : ∀ y ∈ nstep out x, P { y with text := [] } ∧ y.text.length ≤ T + x.text.length := by
  intro y hy
  unfold nstep at hy
  split at hy
  · have := ho y hy; exact ⟨this.1, by omega⟩
  · split at hy
    · rcases List.mem_append.1 hy with h | h
      · have := ho y h; exact ⟨this.1, by omega⟩
      · simp at h; subst h; exact ⟨hx, by omega⟩
    · rename_i p hp
      split at hy
      · rcases List.mem_or_eq_of_mem_set hy with h | h
        · have := ho y h; exact ⟨this.1, by omega⟩
        · subst h
          have := ho p (List.mem_of_getElem? hp)
          exact ⟨this.1, by simp; omega⟩
      · rcases List.mem_append.1 hy with h | h
        · have := ho y h; exact ⟨this.1, by omega⟩
        · simp at h; subst h; exact ⟨hx, by omega⟩
theorem nstep_length (out : List ItemD) (x : ItemD) : (nstep out x).length ≤ out.length + 1 := by
  unfold nstep
  split
  · omega
  · split
    · simp
    · split <;> simp
theorem normal_fold_mem (P : ItemD → Prop) : ∀ (l out : List ItemD) (T : Nat), (∀ y ∈ out, P { y with text := [] } ∧ y.text.length ≤ T) → (∀ x ∈ l, P { x with text := [] }) → (∀ y ∈ l.foldl nstep out, P { y with text := [] } ∧ y.text.length ≤ T + textSum l) ∧ (l.foldl nstep out).length ≤ out.length + l.length
  | [], out, T, ho, _ => ⟨fun y hy => by have := ho y hy; exact ⟨this.1, by omega⟩, by simp⟩
  | x :: l, out, T, ho, hl => by
    have h1 := normal_step_mem P ho (hl x (by simp))
    have h2 := normal_fold_mem P l (nstep out x) (T + x.text.length) h1 (fun y hy => hl y (by simp [hy]))
    have h3 := nstep_length out x
    refine ⟨fun y hy => ?_, ?_⟩
    · have := h2.1 y hy
      exact ⟨this.1, by simp [textSum] at *; omega⟩
    · have := h2.2
      simp only [List.foldl_cons, List.length_cons]
      omega

theorem SmallItem.untexted {x : ItemD} (h : SmallItem { x with text := [] }) (ht : x.text.length ≤ 1000000000) : SmallItem x := ⟨h.1, ht, h.2.2.1, h.2.2.2.1, h.2.2.2.2⟩
theorem small_of_mem {l : List ItemD} (h : l.length ≤ 1000000000) (hm : ∀ x ∈ l, SmallItem x) : SmallItems l := ⟨h, fun _ _ hx => hm _ (List.mem_of_getElem? hx)⟩
theorem SmallItems.mem {l : List ItemD} (h : SmallItems l) : ∀ x ∈ l, SmallItem x := fun x hx => by
  obtain ⟨k, hk⟩ := List.mem_iff_getElem?.1 hx
  exact h.2 k x hk
theorem normal_small {l : List ItemD} (h : SmallDoc l) : SmallItems (normalL l) := by
  have := normal_fold_mem SmallItem l [] 0 (fun _ h => by cases h) (fun x hx => by
    have := h.1.mem x hx
    exact ⟨this.1, by simp, this.2.2.1, this.2.2.2.1, this.2.2.2.2⟩)
  refine small_of_mem (by have h2 := this.2; have := h.1.1; simp at h2; exact Nat.le_trans h2 this) fun x hx => ?_
  have h3 := this.1 x hx
  exact h3.1.untexted (by have := h.2; omega)
end Go.Proofs.Ythifddkmbjnncaa

/-
  The plain law of documents as texts: no program in sight.
-/
namespace Go.Proofs.Ythifddkmbjnncaa

def escT (t : List UInt8) : List UInt8 := (escL false t).getD []
def escV (t : List UInt8) : List UInt8 := (escL true t).getD []
def attrT (a : AttrD) : List UInt8 := [32] ++ a.name ++ [61, 34] ++ escV a.value ++ [34]
def tagL (x : ItemD) : List UInt8 := [60] ++ x.name ++ x.attrs.flatMap attrT
def kidsOf (c : Int) (r : List ItemD) : List ItemD := r.takeWhile fun y => decide (c < y.level)
def pastOf (c : Int) (r : List ItemD) : List ItemD := r.dropWhile fun y => decide (c < y.level)
theorem kids_past (c : Int) (r : List ItemD) : kidsOf c r ++ pastOf c r = r := List.takeWhile_append_dropWhile
theorem kidsOf_le (c : Int) (r : List ItemD) : (kidsOf c r).length ≤ r.length := by
  have := congrArg List.length (kids_past c r)
  rw [List.length_append] at this; omega
theorem pastOf_le (c : Int) (r : List ItemD) : (pastOf c r).length ≤ r.length := by
  have := congrArg List.length (kids_past c r)
  rw [List.length_append] at this; omega
theorem past_drop (c : Int) (r : List ItemD) : pastOf c r = r.drop (kidsOf c r).length := by
  have h := kids_past c r
  have : (kidsOf c r ++ pastOf c r).drop (kidsOf c r).length = pastOf c r := List.drop_left
  rw [h] at this; exact this.symm
theorem kids_take (c : Int) (r : List ItemD) : kidsOf c r = r.take (kidsOf c r).length := by
  have h := kids_past c r
  have : (kidsOf c r ++ pastOf c r).take (kidsOf c r).length = kidsOf c r := List.take_left
  rw [h] at this; exact this.symm
theorem kids_mem (c : Int) : ∀ (r : List ItemD), ∀ y ∈ kidsOf c r, c < y.level
  | [], y, h => by cases h
  | x :: r, y, h => by
    unfold kidsOf at h
    rw [List.takeWhile_cons] at h
    split at h
    · rename_i hx
      rcases List.mem_cons.1 h with rfl | h
      · exact of_decide_eq_true hx
      · exact kids_mem c r y h
    · cases h
theorem past_head (c : Int) : ∀ (r : List ItemD) (y : ItemD) (s : List ItemD), pastOf c r = y :: s → y.level ≤ c
  | [], y, s, h => by cases h
  | x :: r, y, s, h => by
    unfold pastOf at h
    rw [List.dropWhile_cons] at h
    split at h
    · exact past_head c r y s h
    · rename_i hx
      injection h with h1 _
      subst h1
      have := of_decide_eq_false (by simpa using hx : decide (c < x.level) = false)
      omega
/-- what stands in front of what is no kid -/
theorem kids_app (c : Int) : ∀ (s rest : List ItemD), (∀ y r, rest = y :: r → y.level ≤ c) → kidsOf c (s ++ rest) = kidsOf c s
  | [], rest, h => by
    cases rest with
    | nil => rfl
    | cons y r =>
      have := h y r rfl
      show List.takeWhile _ (y :: r) = _
      rw [List.takeWhile_cons, if_neg (by simp; omega)]; rfl
  | x :: s, rest, h => by
    show List.takeWhile _ (x :: (s ++ rest)) = List.takeWhile _ (x :: s)
    rw [List.takeWhile_cons, List.takeWhile_cons]
    have := kids_app c s rest h
    unfold kidsOf at this
    rw [this]

/-- an item with what is in it -/
def nodeL (x : ItemD) (kids : List ItemD) (inner : List UInt8) : List UInt8 :=
  if x.kind = 2 then escT x.text else if kids = [] then tagL x ++ [47, 62] else tagL x ++ [62] ++ inner ++ ([60, 47] ++ x.name ++ [62])
/-- items side by side -/
def pr : List ItemD → List UInt8
  | [] => []
  | x :: r => nodeL x (kidsOf x.level r) (pr (kidsOf x.level r)) ++ pr (pastOf x.level r)
termination_by l => l.length
decreasing_by
  · have := kidsOf_le x.level r; simp; omega
  · have := pastOf_le x.level r; simp; omega
theorem pr_nil : pr [] = [] := by rw [pr]
theorem pr_cons (x : ItemD) (r : List ItemD) : pr (x :: r) = nodeL x (kidsOf x.level r) (pr (kidsOf x.level r)) ++ pr (pastOf x.level r) := by rw [pr]
/-- an item of a row, with what is in it -/
def nodeAt (l : List ItemD) (k : Nat) : List UInt8 := match l.drop k with
  | [] => []
  | x :: r => nodeL x (kidsOf x.level r) (pr (kidsOf x.level r))
/-- the number behind an item of a row -/
def endN (l : List ItemD) (k : Nat) : Nat := match l.drop k with
  | [] => 0
  | x :: r => k + 1 + (kidsOf x.level r).length

theorem endN_eq {l : List ItemD} {k : Nat} {x : ItemD} (hx : l[k]? = some x) : endN l k = k + 1 + (kidsOf x.level (l.drop (k + 1))).length := by
  unfold endN; rw [drop_cons hx]
theorem nodeAt_eq {l : List ItemD} {k : Nat} {x : ItemD} (hx : l[k]? = some x) : nodeAt l k = nodeL x (kidsOf x.level (l.drop (k + 1))) (pr (kidsOf x.level (l.drop (k + 1)))) := by
  unfold nodeAt; rw [drop_cons hx]
/-- what is in an item: its numbers are those from the next one on, up to its end -/
theorem kids_seg {l : List ItemD} {k : Nat} {x : ItemD} (hx : l[k]? = some x) : kidsOf x.level (l.drop (k + 1)) = (l.drop (k + 1)).take (endN l k - (k + 1)) := by
  have h := kids_take x.level (l.drop (k + 1))
  rw [endN_eq hx, show k + 1 + (kidsOf x.level (l.drop (k + 1))).length - (k + 1) = (kidsOf x.level (l.drop (k + 1))).length by omega]
  exact h
theorem endN_le {l : List ItemD} {k : Nat} {x : ItemD} (hx : l[k]? = some x) : k < endN l k ∧ endN l k ≤ l.length := by
  have h := kidsOf_le x.level (l.drop (k + 1))
  have hk : k < l.length := (List.getElem?_eq_some_iff.1 hx).1
  rw [endN_eq hx]
  rw [List.length_drop] at h
  omega
theorem seg_step {l : List ItemD} {k n : Nat} {x y : ItemD} (hx : l[k]? = some x) (hkn : k < n) (hn : n < endN l k) (hy : l[n]? = some y) :
    n < endN l n ∧ endN l n ≤ endN l k ∧ pr ((l.drop n).take (endN l k - n)) = nodeAt l n ++ pr ((l.drop (endN l n)).take (endN l k - endN l n)) := by
  obtain ⟨E, hE⟩ : ∃ E, endN l k = E := ⟨_, rfl⟩
  have hEl := (endN_le hx).2
  have hseg := kids_seg hx
  rw [hE] at hn hEl hseg ⊢
  -- what stands between, and behind
  have hyl : x.level < y.level := by
    refine kids_mem x.level (l.drop (k + 1)) y ?_
    rw [hseg]
    refine List.mem_of_getElem? (i := n - (k + 1)) ?_
    rw [List.getElem?_take, if_pos (by omega), List.getElem?_drop, show k + 1 + (n - (k + 1)) = n by omega]
    exact hy
  have hsplit : l.drop (n + 1) = (l.drop (n + 1)).take (E - (n + 1)) ++ l.drop E := by
    have := (List.take_append_drop (E - (n + 1)) (l.drop (n + 1))).symm
    rw [List.drop_drop, show n + 1 + (E - (n + 1)) = E by omega] at this
    exact this
  have hpast : pastOf x.level (l.drop (k + 1)) = l.drop E := by
    rw [past_drop, List.drop_drop]
    congr 1
    rw [← hE, endN_eq hx]
  have hrest : ∀ z r, l.drop E = z :: r → z.level ≤ y.level := fun z r h => by
    have := past_head x.level (l.drop (k + 1)) z r (by rw [hpast]; exact h)
    omega
  obtain ⟨s, hs⟩ : ∃ s, (l.drop (n + 1)).take (E - (n + 1)) = s := ⟨_, rfl⟩
  rw [hs] at hsplit
  have hkids : kidsOf y.level (l.drop (n + 1)) = kidsOf y.level s := by rw [hsplit]; exact kids_app _ _ _ hrest
  have hsl : s.length = E - (n + 1) := by rw [← hs, List.length_take, List.length_drop]; omega
  have hkl := kidsOf_le y.level s
  have hend : endN l n = n + 1 + (kidsOf y.level s).length := by rw [endN_eq hy, hkids]
  refine ⟨by omega, by omega, ?_⟩
  have hseg' : (l.drop n).take (E - n) = y :: s := by
    rw [drop_cons hy, show E - n = (E - (n + 1)) + 1 by omega, List.take_succ_cons, hs]
  rw [hseg', pr_cons, nodeAt_eq hy, hkids, past_drop, hend]
  congr 2
  rw [← hs, List.drop_take, List.drop_drop]
  congr 1
  omega

def printL (l : List ItemD) : List UInt8 × Int := if (checkL l).2 = 0 then (nodeAt (normalL l) 0, 0) else ([], (checkL l).2)
end Go.Proofs.Ythifddkmbjnncaa

/-
  The plain law of documents: what a row that was checked is; the two ways to print it come to the same. No program in sight.
-/
namespace Go.Proofs.Ythifddkmbjnncaa

/-! What was checked. -/
theorem checkF_ok : ∀ (l : List ItemD) (prev : Option ItemD) (k : Nat), (checkF prev k l).2 = 0 → ∀ (j : Nat) (x : ItemD), l[j]? = some x → oneE (if j = 0 then prev else l[j - 1]?) (k + j) x = 0
  | [], _, _, _, j, x, h => by simp at h
  | y :: r, prev, k, h, j, x, hx => by
    unfold checkF at h
    by_cases h0 : oneE prev k y = 0
    · rw [if_pos h0] at h
      cases j with
      | zero => simp at hx; subst hx; simpa using h0
      | succ j =>
        have := checkF_ok r (some y) (k + 1) h j x (by simpa using hx)
        rw [if_neg (by omega)]
        have e : (y :: r)[j + 1 - 1]? = if j = 0 then some y else r[j - 1]? := by
          cases j with
          | zero => rfl
          | succ j => simp
        rw [e, show k + (j + 1) = k + 1 + j by omega]
        exact this
    · rw [if_neg h0] at h; exact absurd h h0

structure Doc (l : List ItemD) : Prop where
  ne : l ≠ []
  one : ∀ (k : Nat) (x : ItemD), l[k]? = some x → oneE (prevOf l k) k x = 0
theorem checkL_ok {l : List ItemD} (h : (checkL l).2 = 0) : Doc l := by
  unfold checkL at h
  by_cases h0 : l = []
  · rw [if_pos h0] at h; cases h
  · rw [if_neg h0] at h
    refine ⟨h0, fun k x hx => ?_⟩
    have := checkF_ok l none 0 h k x hx
    rw [Nat.zero_add] at this
    exact this
theorem Doc.first {l : List ItemD} (h : Doc l) : ∃ x r, l = x :: r ∧ x.level = 0 ∧ x.kind = 1 := by
  cases l with
  | nil => exact absurd rfl h.ne
  | cons x r =>
    refine ⟨x, r, rfl, ?_⟩
    have h0 := (oneE_zero (h.one 0 x rfl)).1
    have : prevOf (x :: r) 0 = none := rfl
    rw [this] at h0
    unfold placeE at h0
    simp only at h0
    split at h0
    · omega
    · omega
theorem Doc.many {l : List ItemD} (h : Doc l) : l.length ≤ 1000 := by
  rcases Nat.lt_or_ge 1000 l.length with hl | hl
  · have hx : l[1000]? = some l[1000] := List.getElem?_eq_getElem hl
    have h0 := (oneE_zero (h.one 1000 _ hx)).1
    have hp : prevOf l 1000 = some (l[999]'(by omega)) := by unfold prevOf; rw [if_neg (by omega)]; exact List.getElem?_eq_getElem (by omega)
    rw [hp] at h0
    unfold placeE at h0
    simp only at h0
    split at h0
    · omega
    split at h0
    · omega
    · omega
  · exact hl

/-- how deep the next item may stand -/
def cap (x : ItemD) : Int := if x.kind = 2 then x.level else x.level + 1
def capC : Int → List ItemD → Prop
  | _, [] => True
  | c, x :: r => x.level ≤ c ∧ capC (cap x) r
theorem Doc.step {l : List ItemD} (h : Doc l) {k : Nat} {p x : ItemD} (hp : l[k]? = some p) (hx : l[k + 1]? = some x) : 1 ≤ x.level ∧ x.level ≤ cap p := by
  have h0 := (oneE_zero (h.one (k + 1) x hx)).1
  have e : prevOf l (k + 1) = some p := prevOf_succ hp
  rw [e] at h0
  unfold placeE at h0
  simp only at h0
  unfold cap
  split at h0
  · omega
  · split <;> omega
theorem capC_of {l : List ItemD} (hs : ∀ (k : Nat) (p x : ItemD), l[k]? = some p → l[k + 1]? = some x → x.level ≤ cap p) : ∀ (x : ItemD) (r : List ItemD), l = x :: r → capC x.level l := by
  have key : ∀ (r : List ItemD) (x : ItemD), (∀ (k : Nat) (p y : ItemD), (x :: r)[k]? = some p → (x :: r)[k + 1]? = some y → y.level ≤ cap p) → capC (cap x) r := by
    intro r
    induction r with
    | nil => intro x _; trivial
    | cons y r ih =>
      intro x h
      exact ⟨h 0 x y rfl rfl, ih y (fun k p z hp hz => h (k + 1) p z hp hz)⟩
  intro x r e
  subst e
  exact ⟨Int.le_refl _, key r x hs⟩
theorem Doc.cap {l : List ItemD} (h : Doc l) : capC 0 l ∧ ∀ y ∈ l, 0 ≤ y.level := by
  obtain ⟨x, r, rfl, hx0, _⟩ := h.first
  have := capC_of (fun k p y hp hy => (h.step hp hy).2) x r rfl
  rw [hx0] at this
  refine ⟨this, fun y hy => ?_⟩
  obtain ⟨k, hk⟩ := List.mem_iff_getElem?.1 hy
  exact (placeE_zero (oneE_zero (h.one k y hk)).1).1
theorem Doc.below {l : List ItemD} (h : Doc l) {x : ItemD} {r : List ItemD} (e : l = x :: r) : ∀ y ∈ r, 1 ≤ y.level := by
  subst e
  intro y hy
  obtain ⟨k, hk⟩ := List.mem_iff_getElem?.1 hy
  have h1 : (x :: r)[k + 1]? = some y := by simpa using hk
  have h2 : ∃ p, (x :: r)[k]? = some p := ⟨_, List.getElem?_eq_getElem (by have := (List.getElem?_eq_some_iff.1 h1).1; omega)⟩
  obtain ⟨p, hp⟩ := h2
  exact (h.step hp h1).1

/-! Made normal, item by item: the last one is held back. -/
def normP (p : ItemD) : List ItemD → List ItemD
  | [] => [p]
  | x :: r => if x.kind = 2 ∧ x.text = [] then normP p r
    else if x.kind = 2 ∧ p.kind = 2 ∧ p.level = x.level then normP { p with text := p.text ++ x.text } r
    else p :: normP x r
theorem fold_normP : ∀ (l out : List ItemD) (p : ItemD), l.foldl nstep (out ++ [p]) = out ++ normP p l
  | [], out, p => rfl
  | x :: l, out, p => by
    have hl : (out ++ [p])[(out ++ [p]).length - 1]? = some p := by simp
    rw [List.foldl_cons]
    by_cases h1 : x.kind = 2 ∧ x.text = []
    · rw [nstep_void h1.1 h1.2, fold_normP l out p, normP, if_pos h1]
    · by_cases h2 : x.kind = 2 ∧ p.kind = 2 ∧ p.level = x.level
      · have e : nstep (out ++ [p]) x = out ++ [{ p with text := p.text ++ x.text }] := by
          rw [nstep_join hl h2.1 (fun h => h1 ⟨h2.1, h⟩) h2.2.1 h2.2.2]
          simp
        rw [e, fold_normP l out _, normP, if_neg h1, if_pos h2]
      · rw [nstep_more hl h1 h2, fold_normP l (out ++ [p]) x, normP, if_neg h1, if_neg h2]
        simp
theorem normal_first {x : ItemD} {r : List ItemD} (h : x.kind = 1) : normalL (x :: r) = normP x r := by
  unfold normalL
  rw [List.foldl_cons, nstep_first (by rw [h]; simp)]
  exact fold_normP r [] x
theorem capC_more {c c' : Int} (h : c ≤ c') : ∀ {l : List ItemD}, capC c l → capC c' l
  | [], _ => trivial
  | _ :: _, hl => ⟨Int.le_trans hl.1 h, hl.2⟩
theorem normP_cap : ∀ (r : List ItemD) (p : ItemD) (c c' : Int), p.level ≤ c → c' ≤ cap p → capC c' r → capC c (normP p r)
  | [], p, c, c', h, _, _ => ⟨h, trivial⟩
  | x :: r, p, c, c', h, h', hr => by
    unfold normP
    split
    · rename_i h1
      refine normP_cap r p c (cap x) h ?_ hr.2
      have : cap x = x.level := by unfold cap; rw [if_pos h1.1]
      have := hr.1
      omega
    · split
      · rename_i h2
        refine normP_cap r _ c (cap x) h ?_ hr.2
        show cap x ≤ cap { p with text := _ }
        unfold cap
        rw [if_pos h2.1]
        show x.level ≤ (if p.kind = 2 then p.level else p.level + 1)
        rw [if_pos h2.2.1]; omega
      · exact ⟨h, normP_cap r x (cap p) (cap x) (by have := hr.1; omega) (Int.le_refl _) hr.2⟩
theorem normP_mem (P : Int → Prop) : ∀ (r : List ItemD) (p : ItemD), P p.level → (∀ y ∈ r, P y.level) → ∀ y ∈ normP p r, P y.level
  | [], p, hp, _, y, hy => by simp [normP] at hy; subst hy; exact hp
  | x :: r, p, hp, hr, y, hy => by
    unfold normP at hy
    split at hy
    · exact normP_mem P r p hp (fun z hz => hr z (by simp [hz])) y hy
    · split at hy
      · exact normP_mem P r { p with text := p.text ++ x.text } hp (fun z hz => hr z (by simp [hz])) y hy
      · rcases List.mem_cons.1 hy with rfl | hy
        · exact hp
        · exact normP_mem P r x (hr x (by simp)) (fun z hz => hr z (by simp [hz])) y hy
theorem normP_head : ∀ (r : List ItemD) (p : ItemD), p.kind = 1 → ∃ s, normP p r = p :: s ∧ ∀ (P : Int → Prop), (∀ y ∈ r, P y.level) → ∀ y ∈ s, P y.level
  | [], p, _ => ⟨[], rfl, fun _ _ _ h => by cases h⟩
  | x :: r, p, hp => by
    unfold normP
    split
    · obtain ⟨s, h1, h2⟩ := normP_head r p hp
      exact ⟨s, h1, fun P hP => h2 P (fun z hz => hP z (by simp [hz]))⟩
    · rw [if_neg (by rw [hp]; simp)]
      exact ⟨_, rfl, fun P hP => normP_mem P r x (hP x (by simp)) (fun z hz => hP z (by simp [hz]))⟩

/-- what a document is when it has been made normal -/
structure Shape (N : List ItemD) (x : ItemD) (s : List ItemD) : Prop where
  eq : N = x :: s
  level : x.level = 0
  kind : x.kind = 1
  cap : capC 0 N
  zero : ∀ y ∈ N, 0 ≤ y.level
  past : ∀ y ∈ s, 1 ≤ y.level
theorem Doc.normal {l : List ItemD} (h : Doc l) : ∃ x s, Shape (normalL l) x s := by
  obtain ⟨x, r, e, h0, h1⟩ := h.first
  have hc := h.cap
  have hb := h.below e
  subst e
  obtain ⟨s, e2, h2⟩ := normP_head r x h1
  refine ⟨x, s, by rw [normal_first h1]; exact e2, h0, h1, ?_, ?_, h2 (1 ≤ ·) hb⟩
  · rw [normal_first h1]
    exact normP_cap r x 0 (Go.Proofs.Ythifddkmbjnncaa.cap x) (by omega) (Int.le_refl _) hc.1.2
  · rw [normal_first h1, e2]
    intro y hy
    rcases List.mem_cons.1 hy with rfl | hy
    · omega
    · have := h2 (1 ≤ ·) hb y hy; omega

/-! The document's way to print: what is open is closed ahead of what is not in it. -/
def closeT (n : List UInt8) : List UInt8 := [60, 47] ++ n ++ [62]
def pops (L : Int) : List (List UInt8) → List UInt8 × List (List UInt8)
  | [] => ([], [])
  | n :: o => if L < (o.length + 1 : Nat) then (closeT n ++ (pops L o).1, (pops L o).2) else ([], n :: o)
def leafB (x : ItemD) : List ItemD → Bool
  | [] => true
  | y :: _ => decide (y.level ≤ x.level)
def mach : List (List UInt8) → List ItemD → List UInt8
  | o, [] => o.flatMap closeT
  | o, x :: r => (pops x.level o).1 ++ (if x.kind = 2 then escT x.text ++ mach (pops x.level o).2 r
      else if leafB x r then tagL x ++ [47, 62] ++ mach (pops x.level o).2 r else tagL x ++ [62] ++ mach (x.name :: (pops x.level o).2) r)
theorem pops_none {L : Int} {o : List (List UInt8)} (h : (o.length : Int) ≤ L) : pops L o = ([], o) := by
  cases o with
  | nil => rfl
  | cons n o => unfold pops; rw [if_neg (by simp at h ⊢; omega)]
theorem mach_pop {n : List UInt8} {o : List (List UInt8)} {s : List ItemD} (h : ∀ y t, s = y :: t → y.level ≤ o.length) : mach (n :: o) s = closeT n ++ mach o s := by
  cases s with
  | nil => rfl
  | cons y t =>
    have := h y t rfl
    unfold mach
    have e : pops y.level (n :: o) = (closeT n ++ (pops y.level o).1, (pops y.level o).2) := by
      rw [pops, if_pos (by simp; omega)]
    rw [e]
    simp
theorem mach_text {o : List (List UInt8)} {x : ItemD} {r : List ItemD} (hl : (o.length : Int) ≤ x.level) (hk : x.kind = 2) : mach o (x :: r) = escT x.text ++ mach o r := by
  rw [mach, pops_none hl, if_pos hk]; rfl
theorem mach_leaf {o : List (List UInt8)} {x : ItemD} {r : List ItemD} (hl : (o.length : Int) ≤ x.level) (hk : x.kind ≠ 2) (h : leafB x r = true) : mach o (x :: r) = tagL x ++ [47, 62] ++ mach o r := by
  rw [mach, pops_none hl, if_neg hk, if_pos h]; rfl
theorem mach_open {o : List (List UInt8)} {x : ItemD} {r : List ItemD} (hl : (o.length : Int) ≤ x.level) (hk : x.kind ≠ 2) (h : leafB x r = false) : mach o (x :: r) = tagL x ++ [62] ++ mach (x.name :: o) r := by
  rw [mach, pops_none hl, if_neg hk, if_neg (by simp [h])]; rfl

theorem capC_split : ∀ (a b : List ItemD) (c : Int), capC c (a ++ b) → capC c a ∧ ∃ c', capC c' b
  | [], b, c, h => ⟨trivial, c, h⟩
  | x :: a, b, c, h => by
    obtain ⟨h1, c', h2⟩ := capC_split a b (cap x) h.2
    exact ⟨⟨h.1, h1⟩, c', h2⟩
theorem capC_head {c c' : Int} : ∀ {l : List ItemD}, capC c l → (∀ y t, l = y :: t → y.level ≤ c') → capC c' l
  | [], _, _ => trivial
  | y :: t, h, h' => ⟨h' y t rfl, h.2⟩
theorem kids_nil {c : Int} {r : List ItemD} (h : capC c r) : kidsOf c r = [] ∧ pastOf c r = r := by
  cases r with
  | nil => exact ⟨rfl, rfl⟩
  | cons y r =>
    have := h.1
    have hd : decide (c < y.level) = false := by simp; omega
    constructor
    · show List.takeWhile _ (y :: r) = []
      rw [List.takeWhile_cons, hd]; rfl
    · show List.dropWhile _ (y :: r) = _
      rw [List.dropWhile_cons, hd]; rfl

theorem mach_seg : ∀ (n : Nat) (b : List ItemD) (o : List (List UInt8)) (rest : List ItemD), b.length ≤ n → (∀ y ∈ b, (o.length : Int) ≤ y.level) → capC o.length b → (∀ y t, rest = y :: t → y.level ≤ o.length) → mach o (b ++ rest) = pr b ++ mach o rest := by
  intro n
  induction n with
  | zero =>
    intro b o rest hb _ _ _
    have : b = [] := List.eq_nil_of_length_eq_zero (by omega)
    subst this
    rw [pr_nil]; rfl
  | succ n ih =>
    intro b o rest hb hlow hcap hrest
    cases b with
    | nil => rw [pr_nil]; rfl
    | cons x r =>
      have hx1 := hlow x (by simp)
      have hx2 := hcap.1
      have hxl : x.level = o.length := by omega
      have hr := hcap.2
      have hlr : ∀ y ∈ r, (o.length : Int) ≤ y.level := fun y hy => hlow y (by simp [hy])
      have hbl : r.length ≤ n := by simp at hb; omega
      rw [pr_cons, List.cons_append]
      by_cases hk : x.kind = 2
      · have hcx : cap x = x.level := by unfold cap; rw [if_pos hk]
        rw [hcx] at hr
        obtain ⟨k1, k2⟩ := kids_nil hr
        have hr' : capC o.length r := by rw [← hxl]; exact hr
        rw [mach_text hx1 hk, ih r o rest hbl hlr hr' hrest, k1, k2]
        have : nodeL x [] (pr []) = escT x.text := by unfold nodeL; rw [if_pos hk]
        rw [this, List.append_assoc]
      · have hcx : cap x = x.level + 1 := by unfold cap; rw [if_neg hk]
        rw [hcx] at hr
        have hsplit := kids_past x.level r
        have hpast : ∀ y t, pastOf x.level r = y :: t → y.level ≤ x.level := fun y t h => past_head x.level r y t h
        have hpr : ∀ y t, pastOf x.level r ++ rest = y :: t → y.level ≤ (o.length : Int) := by
          intro y t h
          cases hp : pastOf x.level r with
          | nil => rw [hp] at h; exact hrest y t h
          | cons z s =>
            rw [hp] at h
            injection h with h1 _
            subst h1
            have := hpast z s hp
            omega
        rw [← hsplit] at hr
        obtain ⟨hc1, c', hc2⟩ := capC_split _ _ _ hr
        have hc2' : capC o.length (pastOf x.level r) := capC_head hc2 (fun y t h => by have := hpast y t h; omega)
        have hkl := kidsOf_le x.level r
        have hpl := pastOf_le x.level r
        have hlp : ∀ y ∈ pastOf x.level r, (o.length : Int) ≤ y.level := fun y hy => hlr y (by rw [← hsplit]; simp [hy])
        by_cases hkn : kidsOf x.level r = []
        · have hleaf : leafB x (r ++ rest) = true := by
            have e : r ++ rest = pastOf x.level r ++ rest := by
              conv => lhs; rw [← hsplit]
              rw [hkn]; rfl
            rw [e]
            cases hp : pastOf x.level r ++ rest with
            | nil => rfl
            | cons y t => have := hpr y t hp; show decide _ = true; simp; omega
          have e : r = pastOf x.level r := by
            conv => lhs; rw [← hsplit]
            rw [hkn]; rfl
          rw [mach_leaf hx1 hk hleaf, hkn]
          have : nodeL x [] (pr []) = tagL x ++ [47, 62] := by unfold nodeL; rw [if_neg hk, if_pos rfl]
          rw [this]
          conv => lhs; rw [e]
          rw [ih _ o rest (by omega) hlp hc2' hrest]
          simp
        · obtain ⟨y, t, hyt⟩ := List.exists_cons_of_ne_nil hkn
          have hyl : x.level < y.level := kids_mem x.level r y (by rw [hyt]; simp)
          have hleaf : leafB x (r ++ rest) = false := by
            have e : r ++ rest = y :: (t ++ (pastOf x.level r ++ rest)) := by
              conv => lhs; rw [← hsplit]
              rw [hyt]; simp
            rw [e]
            show decide _ = false
            simp; omega
          rw [mach_open hx1 hk hleaf]
          have e : r ++ rest = kidsOf x.level r ++ (pastOf x.level r ++ rest) := by
            conv => lhs; rw [← hsplit]
            rw [List.append_assoc]
          have hcl : ((x.name :: o).length : Int) = x.level + 1 := by simp; omega
          rw [e, ih (kidsOf x.level r) (x.name :: o) (pastOf x.level r ++ rest) (by omega)
            (fun z hz => by have := kids_mem x.level r z hz; omega) (by rw [hcl]; exact hc1)
            (fun z u h => by have := hpr z u h; omega)]
          rw [mach_pop hpr, ih (pastOf x.level r) o rest (by omega) hlp hc2' hrest]
          have : nodeL x (kidsOf x.level r) (pr (kidsOf x.level r)) = tagL x ++ [62] ++ pr (kidsOf x.level r) ++ closeT x.name := by
            unfold nodeL; rw [if_neg hk, if_neg hkn]; rfl
          rw [this]
          simp

theorem all_kids (c : Int) : ∀ (s : List ItemD), (∀ y ∈ s, c < y.level) → kidsOf c s = s ∧ pastOf c s = []
  | [], _ => ⟨rfl, rfl⟩
  | y :: s, h => by
    obtain ⟨h1, h2⟩ := all_kids c s (fun z hz => h z (by simp [hz]))
    have hd : decide (c < y.level) = true := by have := h y (by simp); simpa using this
    constructor
    · show List.takeWhile _ (y :: s) = _
      rw [List.takeWhile_cons, hd]
      show y :: kidsOf c s = _
      rw [h1]
    · show List.dropWhile _ (y :: s) = _
      rw [List.dropWhile_cons, hd]
      exact h2
theorem Shape.pr {N : List ItemD} {x : ItemD} {s : List ItemD} (h : Shape N x s) : pr N = nodeAt N 0 := by
  rw [h.eq, pr_cons]
  have hk : kidsOf x.level s = s ∧ pastOf x.level s = [] := all_kids x.level s (fun y hy => by have := h.past y hy; have := h.level; omega)
  rw [hk.2, pr_nil, List.append_nil]
  rfl
theorem Shape.mach {N : List ItemD} {x : ItemD} {s : List ItemD} (h : Shape N x s) : mach [] N = nodeAt N 0 := by
  have := mach_seg N.length N [] [] (Nat.le_refl _) (fun y hy => by have := h.zero y hy; simpa using this) (by simpa using h.cap) (fun y t h => by cases h)
  rw [List.append_nil] at this
  rw [this, ← h.pr]
  show Go.Proofs.Ythifddkmbjnncaa.pr N ++ [] = _
  rw [List.append_nil]
end Go.Proofs.Ythifddkmbjnncaa

/-
  The plain law of sizes: a document that was checked is printed in not many bytes. No program in sight.
-/
namespace Go.Proofs.Ythifddkmbjnncaa

theorem charsF_le (f : Nat) : ∀ (l : List UInt8) (cs : List Int), charsF f l = some cs → cs.length ≤ l.length := by
  induction f with
  | zero =>
    intro l cs h
    unfold charsF at h
    split at h
    · injection h with h; subst h; simp
    · cases h
  | succ f ih =>
    intro l cs h
    unfold charsF at h
    split at h
    · injection h with h; subst h; simp
    · rename_i hl
      split at h
      · cases h
      · rename_i hn
        obtain ⟨ds, hd, rfl⟩ := Option.map_eq_some_iff.1 h
        have := ih _ _ hd
        have hp : 0 < l.length := List.length_pos_iff.2 hl
        rw [List.length_drop] at this
        rw [List.length_cons]; omega
theorem esc_fit (v : Bool) (l : List UInt8) : ((escL v l).getD []).length ≤ 6 * l.length := by
  unfold escL
  cases hc : charsL l with
  | none => simp
  | some cs =>
    have hl := charsF_le _ _ _ hc
    show (cs.flatMap (writtenL v)).length ≤ _
    have : ∀ cs : List Int, (cs.flatMap (writtenL v)).length ≤ 6 * cs.length := by
      intro cs
      induction cs with
      | nil => simp
      | cons c cs ih =>
        have h1 := writtenL_len v c
        simp only [List.flatMap_cons, List.length_append, List.length_cons]
        omega
    have := this cs
    omega

/-! What was checked is not long. -/
structure Fit (x : ItemD) : Prop where
  name : x.name.length ≤ 60
  attrs : x.attrs.length ≤ 20
  each : ∀ a ∈ x.attrs, a.name.length ≤ 60 ∧ a.value.length ≤ 1500
theorem nameL_len {l : List UInt8} (h : nameL l = true) : l.length ≤ 60 := by
  unfold nameL at h
  split at h
  · simp only [Bool.and_eq_true, decide_eq_true_eq] at h; exact h.1
  · cases h
theorem charsE_len {l : List UInt8} (h : charsE l = 0) : l.length ≤ 1500 := by
  unfold charsE at h
  split at h
  · omega
  · split at h
    · omega
    · omega
theorem attrNames_mem : ∀ (l : List AttrD) (last : List UInt8), attrNames last l = true → ∀ a ∈ l, a.name.length ≤ 60
  | [], _, _, _, h => by cases h
  | b :: l, last, h, a, ha => by
    simp only [attrNames, Bool.and_eq_true] at h
    rcases List.mem_cons.1 ha with rfl | ha
    · exact nameL_len h.1.1
    · exact attrNames_mem l b.name h.2 a ha
theorem valuesE_mem : ∀ (l : List AttrD), valuesE l = 0 → ∀ a ∈ l, a.value.length ≤ 1500
  | [], _, _, h => by cases h
  | b :: l, h, a, ha => by
    unfold valuesE at h
    by_cases h0 : charsE b.value = 0
    · rw [if_pos h0] at h
      rcases List.mem_cons.1 ha with rfl | ha
      · exact charsE_len h0
      · exact valuesE_mem l h a ha
    · rw [if_neg h0] at h; exact absurd h h0
theorem parts_fit {x : ItemD} (h : partsE x = 0) : Fit x ∧ x.text.length ≤ 1500 := by
  unfold partsE at h
  split at h
  · rename_i h1
    refine ⟨⟨by rw [h1.2.1]; simp, by rw [h1.2.2]; simp, by rw [h1.2.2]; simp⟩, charsE_len h⟩
  · split at h
    · omega
    · rename_i h2
      have ht : x.text = [] := Decidable.of_not_not fun h => h2 (.inr h)
      by_cases h3 : namesE x = 0
      · rw [if_pos h3] at h
        unfold namesE at h3
        by_cases h4 : (nameL x.name && attrNames [] x.attrs) = true
        · rw [if_pos h4] at h3
          simp only [Bool.and_eq_true] at h4
          refine ⟨⟨nameL_len h4.1, ?_, fun a ha => ⟨attrNames_mem _ _ h4.2 a ha, valuesE_mem _ h a ha⟩⟩, by rw [ht]; simp⟩
          by_cases h5 : 20 < x.attrs.length
          · rw [if_pos h5] at h3; cases h3
          · omega
        · rw [if_neg h4] at h3; cases h3
      · rw [if_neg h3] at h; exact absurd h h3
theorem attrs_fit : ∀ (l : List AttrD), (∀ a ∈ l, a.name.length ≤ 60 ∧ a.value.length ≤ 1500) → (l.flatMap attrT).length ≤ l.length * 9064
  | [], _ => by simp
  | a :: l, h => by
    have h1 := h a (by simp)
    have h2 := attrs_fit l (fun b hb => h b (by simp [hb]))
    have h3 : (escV a.value).length ≤ 6 * a.value.length := esc_fit true a.value
    simp only [List.flatMap_cons, List.length_append, List.length_cons, attrT]
    have e1 : ([] : List UInt8).length = 0 := rfl
    omega
theorem tag_fit {x : ItemD} (h : Fit x) : (tagL x).length ≤ 181341 := by
  have h1 := attrs_fit x.attrs h.each
  have h2 := h.attrs
  have h3 := h.name
  unfold tagL
  simp only [List.length_append, List.length_cons, List.length_nil]
  omega

/-- what an item costs -/
def cost (x : ItemD) : Nat := 6 * x.text.length + (tagL x).length + x.name.length + 6
theorem node_cost (x : ItemD) (k : List ItemD) (i : List UInt8) : (nodeL x k i).length ≤ cost x + i.length := by
  have := esc_fit false x.text
  unfold nodeL cost
  split
  · show (escT x.text).length ≤ _
    unfold escT; omega
  · split
    · simp; omega
    · simp; omega
theorem pr_cost : ∀ (n : Nat) (l : List ItemD), l.length ≤ n → (pr l).length ≤ (l.map cost).sum := by
  intro n
  induction n with
  | zero => intro l h; rw [List.eq_nil_of_length_eq_zero (by omega : l.length = 0), pr_nil]; simp
  | succ n ih =>
    intro l h
    cases l with
    | nil => rw [pr_nil]; simp
    | cons x r =>
      have hk := kidsOf_le x.level r
      have hp := pastOf_le x.level r
      simp at h
      have h1 := node_cost x (kidsOf x.level r) (pr (kidsOf x.level r))
      have h2 := ih (kidsOf x.level r) (by omega)
      have h3 := ih (pastOf x.level r) (by omega)
      have h4 := congrArg (fun l : List ItemD => (l.map cost).sum) (kids_past x.level r)
      simp only [List.map_append, List.sum_append] at h4
      rw [pr_cons, List.length_append, List.map_cons, List.sum_cons]
      omega

theorem textSum_set : ∀ (l : List ItemD) (i : Nat) (p q : ItemD), l[i]? = some p → textSum (l.set i q) + p.text.length = textSum l + q.text.length
  | [], _, _, _, h => by simp at h
  | x :: l, 0, p, q, h => by
    simp at h; subst h
    simp [textSum]; omega
  | x :: l, i + 1, p, q, h => by
    have := textSum_set l i p q (by simpa using h)
    simp only [textSum, List.set_cons_succ, List.map_cons, List.sum_cons] at this ⊢
    omega
theorem textSum_step (out : List ItemD) (x : ItemD) : textSum (nstep out x) ≤ textSum out + x.text.length := by
  unfold nstep
  split
  · omega
  · split
    · rw [textSum_snoc]
      exact Nat.le_refl _
    · rename_i p hp
      split
      · have := textSum_set out _ p { p with text := p.text ++ x.text } hp
        simp at this; omega
      · rw [textSum_snoc]
        exact Nat.le_refl _
theorem textSum_fold : ∀ (l out : List ItemD), textSum (l.foldl nstep out) ≤ textSum out + textSum l
  | [], out => by simp [textSum]
  | x :: l, out => by
    have h1 := textSum_fold l (nstep out x)
    have h2 := textSum_step out x
    have h3 : textSum (x :: l) = x.text.length + textSum l := by simp [textSum]
    rw [List.foldl_cons]
    omega
theorem cost_sum : ∀ (l : List ItemD), (∀ x ∈ l, Fit x) → (l.map cost).sum ≤ 6 * textSum l + l.length * 181407
  | [], _ => by simp
  | x :: l, h => by
    have h1 := cost_sum l (fun y hy => h y (by simp [hy]))
    have h2 := tag_fit (h x (by simp))
    have h3 := (h x (by simp)).name
    have h4 : textSum (x :: l) = x.text.length + textSum l := by simp [textSum]
    have h5 : cost x = 6 * x.text.length + (tagL x).length + x.name.length + 6 := rfl
    rw [List.map_cons, List.sum_cons, List.length_cons, h4]
    omega
theorem textSum_fit : ∀ (l : List ItemD), (∀ x ∈ l, x.text.length ≤ 1500) → textSum l ≤ l.length * 1500
  | [], _ => by simp [textSum]
  | x :: l, h => by
    have h1 := textSum_fit l (fun y hy => h y (by simp [hy]))
    have h2 := h x (by simp)
    have h4 : textSum (x :: l) = x.text.length + textSum l := by simp [textSum]
    rw [h4, List.length_cons]; omega

theorem Doc.parts {l : List ItemD} (h : Doc l) : ∀ x ∈ l, Fit x ∧ x.text.length ≤ 1500 := fun x hx => by
  obtain ⟨k, hk⟩ := List.mem_iff_getElem?.1 hx
  exact parts_fit (oneE_zero (h.one k x hk)).2
theorem Doc.fits {l : List ItemD} (h : Doc l) : (∀ x ∈ normalL l, Fit x) ∧ (normalL l).length ≤ 1000 ∧ textSum (normalL l) ≤ 1500000 := by
  have hp := h.parts
  have hm := h.many
  have h1 := normal_fold_mem Fit l [] 0 (fun _ h => by cases h) (fun x hx => ⟨(hp x hx).1.name, (hp x hx).1.attrs, (hp x hx).1.each⟩)
  have h2 := textSum_fold l []
  have h3 := textSum_fit l (fun x hx => (hp x hx).2)
  refine ⟨fun x hx => ?_, Nat.le_trans h1.2 (by simpa using hm), ?_⟩
  · have := (h1.1 x hx).1
    exact ⟨this.name, this.attrs, this.each⟩
  · have e : textSum ([] : List ItemD) = 0 := rfl
    show textSum (l.foldl nstep []) ≤ _
    omega
theorem Doc.small {l : List ItemD} (h : Doc l) : (nodeAt (normalL l) 0).length ≤ 250000000 := by
  obtain ⟨x, s, hs⟩ := h.normal
  obtain ⟨f1, f2, f3⟩ := h.fits
  rw [← hs.pr]
  have h1 := pr_cost _ (normalL l) (Nat.le_refl _)
  have h2 := cost_sum _ f1
  omega
end Go.Proofs.Ythifddkmbjnncaa

/-
  The plain law: what is normal is made normal as it is. No program in sight.
-/
namespace Go.Proofs.Ythifddkmbjnncaa

def voidB (x : ItemD) : Prop := x.kind = 2 ∧ x.text = []
def joinB (p x : ItemD) : Prop := x.kind = 2 ∧ p.kind = 2 ∧ p.level = x.level
def nfP (p : ItemD) : List ItemD → Prop
  | [] => True
  | x :: r => ¬ voidB x ∧ ¬ joinB p x ∧ nfP x r
def NF : List ItemD → Prop
  | [] => True
  | x :: r => ¬ voidB x ∧ nfP x r
theorem normP_nf : ∀ (r : List ItemD) (p : ItemD), ¬ voidB p → ∃ q s, normP p r = q :: s ∧ q.level = p.level ∧ q.kind = p.kind ∧ NF (q :: s)
  | [], p, hp => ⟨p, [], rfl, rfl, rfl, hp, trivial⟩
  | x :: r, p, hp => by
    unfold normP
    by_cases h1 : x.kind = 2 ∧ x.text = []
    · rw [if_pos h1]; exact normP_nf r p hp
    · rw [if_neg h1]
      by_cases h2 : x.kind = 2 ∧ p.kind = 2 ∧ p.level = x.level
      · rw [if_pos h2]
        have hne : ¬ voidB { p with text := p.text ++ x.text } := fun h => by
          have := h.2
          simp at this
          exact h1 ⟨h2.1, this.2⟩
        exact normP_nf r { p with text := p.text ++ x.text } hne
      · rw [if_neg h2]
        obtain ⟨q, s, e, k1, k2, k3⟩ := normP_nf r x h1
        refine ⟨p, normP x r, rfl, rfl, rfl, hp, ?_⟩
        rw [e]
        refine ⟨k3.1, fun h => h2 ?_, k3.2⟩
        exact ⟨by rw [← k2]; exact h.1, h.2.1, by rw [← k1]; exact h.2.2⟩
theorem normP_id : ∀ (r : List ItemD) (p : ItemD), nfP p r → normP p r = p :: r
  | [], _, _ => rfl
  | x :: r, p, h => by
    unfold normP
    have h1 : ¬ (x.kind = 2 ∧ x.text = []) := h.1
    have h2 : ¬ (x.kind = 2 ∧ p.kind = 2 ∧ p.level = x.level) := h.2.1
    rw [if_neg h1, if_neg h2, normP_id r x h.2.2]
theorem normal_cases : ∀ (l : List ItemD), normalL l = [] ∨ ∃ x r, ¬ voidB x ∧ normalL l = normP x r
  | [] => .inl rfl
  | x :: l => by
    by_cases h : x.kind = 2 ∧ x.text = []
    · have e : normalL (x :: l) = normalL l := by unfold normalL; rw [List.foldl_cons, nstep_void h.1 h.2]
      rw [e]; exact normal_cases l
    · refine .inr ⟨x, l, h, ?_⟩
      unfold normalL
      rw [List.foldl_cons, nstep_first h]
      exact fold_normP l [] x
theorem normal_nf (l : List ItemD) : NF (normalL l) := by
  rcases normal_cases l with h | ⟨x, r, h1, h2⟩
  · rw [h]; trivial
  · obtain ⟨q, s, e, _, _, h3⟩ := normP_nf r x h1
    rw [h2, e]; exact h3
theorem nf_normal : ∀ (N : List ItemD), NF N → normalL N = N
  | [], _ => rfl
  | x :: r, h => by
    have e : normalL (x :: r) = normP x r := by
      unfold normalL
      rw [List.foldl_cons, nstep_first h.1]
      exact fold_normP r [] x
    rw [e, normP_id r x h.2]
theorem normal_idem (l : List ItemD) : normalL (normalL l) = normalL l := nf_normal _ (normal_nf l)

theorem normal_smallDoc {l : List ItemD} (h : SmallDoc l) : SmallDoc (normalL l) := by
  have h1 := textSum_fold l []
  have e : textSum ([] : List ItemD) = 0 := rfl
  exact ⟨normal_small h, by show textSum (l.foldl nstep []) ≤ _; have := h.2; omega⟩
end Go.Proofs.Ythifddkmbjnncaa

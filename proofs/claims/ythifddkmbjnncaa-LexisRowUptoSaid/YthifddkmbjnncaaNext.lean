/-
  The walks of glyph.head and glyph.Next.
-/
import Derived.Test.YthifddkmbjnncaaLaid
import Derived.Lib.Strings
import Derived.Lib.IndexBytes
namespace Go.Proofs.Ythifddkmbjnncaa
open Go.RowKit

set_option maxHeartbeats 400000 in
theorem head_any (x : Int) (w : World) (h0 : 0 ≤ x) (h1 : x < 256) :
    Calls Try.prog 102 #[.int .u8 x] w fun e w' => e = .returned (.tuple #[.int .i64 (headN x : Nat), .int .i32 (headC x)]) ∧ w = w' := by
  go_enter Try.func102, Try.ntmps102
  go_wp2
  all_goals go_ret2
  all_goals (refine ⟨ret_ii ?_ ?_, rfl⟩)
  all_goals (simp only [headN, headC]; repeat (first | rw [if_pos (by omega)] | rw [if_neg (by omega)])) <;> rfl

theorem head_as (x : Int) (w : World) (h0 : 0 ≤ x) (h1 : x < 256) (n : Nat) (c : Int) (hn : headN x = n) (hc : headC x = c) :
    Calls Try.prog 102 #[.int .u8 x] w fun e w' => e = .returned (.tuple #[.int .i64 (n : Nat), .int .i32 c]) ∧ w = w' := by
  subst hn; subst hc
  exact head_any x w h0 h1

set_option maxHeartbeats 400000 in
theorem Next_nil (s : ByteArray) (w : World) (he : s.toList.isEmpty = true) :
    Calls Try.prog 77 #[.string s] w (Ret w (.tuple #[.int .i32 0, .int .i64 0])) := by
  go_enter Try.func77, Try.ntmps77
  go_wp2_with fail
  go_ret2
  exact ⟨rfl, Below.refl _ _⟩

set_option maxHeartbeats 400000 in
theorem Next_none (s : ByteArray) (w : World) (b : UInt8) (_hs : s.size ≤ maxLen) (hp : 0 < s.size) (hne : s.toList.isEmpty = false) (he : s[0] = b) (h0 : Hid (headN b.toNat = 0)) :
    Calls Try.prog 77 #[.string s] w (Ret w (.tuple #[.int .i32 (-1), .int .i64 0])) := by
  unfold maxLen at _hs
  have hb256 : (b.toNat : Int) < 256 := by have := b.toNat_lt; omega
  go_enter Try.func77, Try.ntmps77
  go_wp2_with (go_at_call 102; refine (head_as _ _ (by omega) (by omega) 0 _ h0.out rfl).mono ?_; rintro e w' ⟨rfl, rfl⟩)
  go_ret2
  exact ⟨rfl, Below.refl _ _⟩

set_option maxHeartbeats 400000 in
theorem Next_short (s : ByteArray) (w : World) (b : UInt8) (n : Nat) (hs : s.size ≤ maxLen) (hp : 0 < s.size) (hne : s.toList.isEmpty = false) (he : s[0] = b) (h0 : Hid (headN b.toNat = n)) (hn : s.size < n) (_h4 : n ≤ 4) :
    Calls Try.prog 77 #[.string s] w (Ret w (.tuple #[.int .i32 (-1), .int .i64 0])) := by
  unfold maxLen at hs
  have hb256 : (b.toNat : Int) < 256 := by have := b.toNat_lt; omega
  have hz : ((n : Int) == 0) = false := by simp; omega
  have hlt : decide (s.size < n) = true := by simp; omega
  go_enter Try.func77, Try.ntmps77
  go_wp2_with (go_at_call 102; refine (head_as _ _ (by omega) (by omega) n _ h0.out rfl).mono ?_; rintro e w' ⟨rfl, rfl⟩)
  go_ret2
  exact ⟨rfl, Below.refl _ _⟩

theorem and192 : ∀ x : Fin 256, (bits .and .u8 (x.val : Int) 192 != 128) = !decide (128 ≤ (x.val : Int) ∧ (x.val : Int) < 192) := by decide +kernel
theorem and192' (b : UInt8) : (bits .and .u8 (b.toNat : Int) 192 != 128) = !contB b := and192 ⟨b.toNat, b.toNat_lt⟩

set_option maxRecDepth 100000 in
set_option maxHeartbeats 1000000 in
theorem Next_good (s : ByteArray) (w : World) (b : UInt8) (n L : Nat) (c0 : Int) (m : List UInt8) (hs : s.size ≤ maxLen) (hp : 0 < s.size) (hne : s.toList.isEmpty = false) (he : s[0] = b) (h0 : Hid (headN b.toNat = n)) (hc0 : Hid (headC b.toNat = c0))
    (hn : n ≤ s.size) (h1 : 1 ≤ n) (h4 : n ≤ 4) (hL : Hid (L + 1 = n)) (hml : Hid (m.length = L)) (hm : Hid ((s.extract 1 n).data.toList = m)) (hm0 : Hid ((s.extract 0 n).data.toList = b :: m)) (hbd : Hid (∀ k, k ≤ m.length → 0 ≤ foldC c0 (m.take k) ∧ foldC c0 (m.take k) < 2097152))
    (V : Int × Nat) (hV : Hid (V = if m.all contB && (charB (foldC c0 m) && (enc (foldC c0 m) == b :: m)) then (foldC c0 m, n) else (-1, 0))) :
    Calls Try.prog 77 #[.string s] w (Ret w (.tuple #[.int .i32 V.1, .int .i64 (V.2 : Nat)])) := by
  unfold maxLen at hs
  have hb256 : (b.toNat : Int) < 256 := by have := b.toNat_lt; omega
  have hz : ((n : Int) == 0) = false := by simp; omega
  have hlt : decide (s.size < n) = false := by simp; omega
  have hsz : (s.extract 1 n).size = L := by have := hL.out; simp; omega
  obtain ⟨cap, wb, hcv, hbb, hbz, hbc⟩ := run_bytes_of (P := Try.prog) w 9 78 5 (s.extract 1 n) L _ hsz hm.out Try.underlying9 Try.underlying78 Try.underlying5
  have hz' : w.heap.size < wb.heap.size := by omega
  have hL4 : L ≤ 3 := by have := hL.out; omega
  have HBC := Lib.hid hbc
  clear hbc hbz hsz
  go_enter Try.func77, Try.ntmps77
  go_wp2_with (go_at_call 102; refine (head_as _ _ (by omega) (by omega) n c0 h0.out hc0.out).mono ?_; rintro e w' ⟨rfl, rfl⟩)
  go_loop [5, 31] (fun c i => ∃ k : Nat, k ≤ L ∧ i = .int .i64 k ∧ c = .int .i32 (foldC c0 (m.take k)) ∧ (m.take k).all contB = true) (fun _ i => L - (intOf i).toNat)
  case atStart => exact ⟨0, Nat.zero_le _, rfl, rfl, rfl⟩
  case round =>
    obtain ⟨k, hk, rfl, rfl, hall⟩ := hrel
    have HA := Lib.hid hall
    clear hall
    have hbk := hbd.out k (by have := hml.out; omega)
    generalize hck : foldC c0 (m.take k) = ck at *
    have HCK := Lib.hid hck
    clear hck
    obtain ⟨hbk0, hbk1⟩ := hbk
    by_cases hlt : k < L
    · obtain ⟨x, HX⟩ : ∃ x, Hid (m[k]? = some x) := ⟨m[k]'(by have := hml.out; omega), List.getElem?_eq_getElem _⟩
      have hcell : wb.cell? ⟨w.heap.size, k, none⟩ = some (.int .u8 x.toNat) := by
        have hkm : k < m.length := by have := hml.out; omega
        rw [HBC.out k hkm]
        have := HX.out
        rw [List.getElem?_eq_getElem hkm] at this
        simp at this; rw [this]
      have hx1 : (x.toNat : Int) < 256 := by have := x.toNat_lt; omega
      have ht := and192' x
      by_cases hcx : contB x = true
      · go_wp2
        go_round
        case rel =>
          have hkm : k < m.length := by have := hml.out; omega
          have htk : m.take (k + 1) = m.take k ++ [x] := by
            have := HX.out
            rw [List.take_add_one, this]; rfl
          refine ⟨k + 1, by omega, by go_num, ?_, ?_⟩
          · rw [htk, foldC_snoc, HCK.out]
          · rw [htk, List.all_append, HA.out]; simpa using hcx
        case measure => simp [intOf]; omega
      · have hcx' : contB x = false := by simpa using hcx
        clear hcx
        go_wp2
        go_ret2
        have hall : m.all contB = false := by
          cases hh : m.all contB with
          | false => rfl
          | true => rw [List.all_eq_true] at hh; rw [hh x (List.mem_of_getElem? HX.out)] at hcx'; cases hcx'
        have hv : V = (-1, 0) := by rw [hV.out, hall]; rfl
        exact ⟨by rw [hv]; rfl, hbb⟩
    · obtain rfl : k = L := by omega
      have hfull : m.take k = m := List.take_of_length_le (by have := hml.out; omega)
      have HCK' : Hid (foldC c0 m = ck) := by have := HCK.out; rw [hfull] at this; exact this
      have hm0' : (s.extract 0 n).toList = b :: m := by rw [ByteArray.toList_eq]; exact hm0.out
      by_cases hch : charB ck = true
      · have hpf : putF ck = enc ck := by unfold putF; rw [if_pos hch]
        have HPF := Lib.hid hpf
        clear hpf
        by_cases hq : (putF ck == (s.extract 0 n).toList) = true
        · have hv : Hid (V = (ck, n)) := by
            have hq' : (enc ck == b :: m) = true := by rw [← HPF.out, ← hm0']; exact hq
            have ha : m.all contB = true := by have := HA.out; rwa [hfull] at this
            show V = (ck, n)
            rw [hV.out, HCK'.out, ha, hch, hq']; rfl
          have HM := Lib.hid hm0'
          clear hm0' hfull
          go_wp2_with (go_at_call 103; refine (Put_any _ _).mono ?_; rintro e w2 ⟨rfl, hb2⟩)
          go_ret2
          exact ⟨by rw [hv.out]; rfl, hbb.trans (hb2.mono (by omega))⟩
        · have hq0 : (putF ck == (s.extract 0 n).toList) = false := by simpa using hq
          clear hq
          have hv : Hid (V = (-1, 0)) := by
            have hq' : (enc ck == b :: m) = false := by rw [← HPF.out, ← hm0']; exact hq0
            show V = (-1, 0)
            rw [hV.out, HCK'.out, hq']; simp
          have HM := Lib.hid hm0'
          clear hm0' hfull
          go_wp2_with (go_at_call 103; refine (Put_any _ _).mono ?_; rintro e w2 ⟨rfl, hb2⟩)
          go_ret2
          exact ⟨by rw [hv.out]; rfl, hbb.trans (hb2.mono (by omega))⟩
      · have hch' : charB ck = false := by simpa using hch
        clear hch
        have hv : Hid (V = (-1, 0)) := by
          show V = (-1, 0)
          rw [hV.out, HCK'.out, hch']; simp
        clear hfull
        have HM := Lib.hid hm0'
        clear hm0'
        go_wp2_with (go_at_call 103; refine (Put_any _ _).mono ?_; rintro e w2 ⟨rfl, hb2⟩)
        go_ret2
        exact ⟨by rw [hv.out]; rfl, hbb.trans (hb2.mono (by omega))⟩

theorem size_toList (s : ByteArray) : s.data.toList.length = s.size := by rw [Array.length_toList]; rfl

theorem get0_of (s : ByteArray) (b : UInt8) (t : List UInt8) (h : s.data.toList = b :: t) (hp : 0 < s.size) : s[0] = b := by
  have : s.data[0]'hp = b := by
    have h2 : s.data.toList[0]? = some b := by rw [h]; rfl
    rw [Array.getElem?_toList, Array.getElem?_eq_getElem hp] at h2
    exact Option.some.inj h2
  exact this

/-- glyph.Next: any text. -/
theorem Next_any (s : ByteArray) (w : World) (hs : s.size ≤ maxLen) :
    Calls Try.prog 77 #[.string s] w (Ret w (.tuple #[.int .i32 (nextL s.data.toList).1, .int .i64 ((nextL s.data.toList).2 : Nat)])) := by
  have hsz := size_toList s
  cases hl : s.data.toList with
  | nil =>
    exact Next_nil s w (by rw [ByteArray.toList_eq, hl]; rfl)
  | cons b t =>
    have hp : 0 < s.size := by rw [← hsz, hl]; simp
    have hne : s.toList.isEmpty = false := by rw [ByteArray.toList_eq, hl]; rfl
    have he := get0_of s b t hl hp
    have hlen : t.length + 1 = s.size := by rw [← hsz, hl]; rfl
    have h4 := headN_le b.toNat
    by_cases h0 : headN b.toNat = 0
    · have hv : nextL (b :: t) = (-1, 0) := by simp [nextL, h0]
      rw [hv]
      exact Next_none s w b hs hp hne he h0
    · by_cases hlt : t.length + 1 < headN b.toNat
      · have hv : nextL (b :: t) = (-1, 0) := by simp [nextL, h0, hlt]
        rw [hv]
        exact Next_short s w b _ hs hp hne he rfl (by omega) h4
      · have hv : nextL (b :: t) = if (t.take (headN b.toNat - 1)).all contB && (charB (foldC (headC b.toNat) (t.take (headN b.toNat - 1))) && (enc (foldC (headC b.toNat) (t.take (headN b.toNat - 1))) == b :: t.take (headN b.toNat - 1))) then (foldC (headC b.toNat) (t.take (headN b.toNat - 1)), headN b.toNat) else (-1, 0) := by
          simp only [nextL]; rw [if_neg h0, if_neg hlt]
        have hml : (t.take (headN b.toNat - 1)).length = headN b.toNat - 1 := by rw [List.length_take]; omega
        have hx1 : (s.extract 1 (headN b.toNat)).data.toList = t.take (headN b.toNat - 1) := by rw [Lib.extract_data, hl]; rfl
        have hx0 : (s.extract 0 (headN b.toNat)).data.toList = b :: t.take (headN b.toNat - 1) := by
          rw [Lib.extract_data, hl]
          obtain ⟨q, hq⟩ : ∃ q, headN b.toNat = q + 1 := ⟨headN b.toNat - 1, by omega⟩
          rw [hq]; rfl
        exact Next_good s w b (headN b.toNat) (headN b.toNat - 1) (headC b.toNat) _ hs hp hne he rfl rfl (by omega) (by omega) h4 (by show _ = _; omega) hml hx1 hx0 (foldC_bd _ (by omega) _ (by omega)) _ hv
end Go.Proofs.Ythifddkmbjnncaa

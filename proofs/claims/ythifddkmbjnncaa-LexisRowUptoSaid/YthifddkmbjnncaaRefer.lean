/-
  The walks of escape.digit and escape.reference.
-/
import Derived.Test.YthifddkmbjnncaaEsc
import Derived.Test.YthifddkmbjnncaaShelfP
import Derived.Test.YthifddkmbjnncaaRNext
import Derived.Test.YthifddkmbjnncaaUndoPlain
import Derived.ScopeJumps
namespace Go.Proofs.Ythifddkmbjnncaa
open Go.RowKit

set_option maxRecDepth 100000 in
set_option maxHeartbeats 1000000 in
theorem digit_any (x base : Int) (w : World) (h0 : 0 ≤ x) (h1 : x < 256) :
    Calls Try.prog 138 #[.int .u8 x, .int .i32 base] w fun e w' => e = .returned (.int .i32 (digitV base x)) ∧ w = w' := by
  go_enter Try.func138, Try.ntmps138
  go_wp2
  all_goals go_ret
  all_goals (refine ⟨ret_int ?_, rfl⟩)
  all_goals (unfold digitV; repeat (first | omega | split))

theorem digit_as (x base : Int) (w : World) (h0 : 0 ≤ x) (h1 : x < 256) (d : Int) (h : Hid (digitV base x = d)) :
    Calls Try.prog 138 #[.int .u8 x, .int .i32 base] w fun e w' => e = .returned (.int .i32 d) ∧ w = w' := by
  have := digit_any x base w h0 h1
  rw [h.out] at this
  exact this

theorem isPrefixOf_pre : ∀ (p l : List UInt8), p.isPrefixOf l = pre p l
  | [], l => by cases l <;> rfl
  | a :: p, [] => rfl
  | a :: p, b :: l => by
    have ih := isPrefixOf_pre p l
    have e : pre (a :: p) (b :: l) = ((b == a) && pre p l) := by
      unfold pre; rw [List.length_cons, List.take_succ_cons]; exact List.cons_beq_cons
    rw [e, ← ih, List.isPrefixOf]
    congr 1
    rw [Bool.eq_iff_iff, beq_iff_eq, beq_iff_eq]; exact eq_comm

theorem hasPrefix_pre (s : ByteArray) (p : List UInt8) (w : World) :
    Calls Try.prog 69 #[.string s, .string ⟨p.toArray⟩] w fun e w' => e = .returned (.bool (pre p s.data.toList)) ∧ w = w' := by
  refine (Try.strings_HasPrefix s ⟨p.toArray⟩ w).mono ?_
  rintro e w' ⟨rfl, rfl⟩
  exact ⟨ret_bool (isPrefixOf_pre _ _), rfl⟩

set_option maxRecDepth 100000 in
set_option maxHeartbeats 1000000 in
theorem reference_0 (s : ByteArray) (w : World) (h0 : pre [38, 97, 109, 112, 59] s.data.toList = true) :
    Calls Try.prog 116 #[.string s] w (Ret w (.tuple #[.int .i32 38, .int .i64 5])) := by
  go_enter Try.func116, Try.ntmps116
  go_wp2
  go_step3
  go_wp2
  refine wp_loop_rounds 6 ?_
  rw [rounds_succ]
  go_wp2_with (first | (go_at_call 69; refine (hasPrefix_pre _ _ _).mono ?_; rintro e w' ⟨rfl, rfl⟩) | go_in)
  rw [Exit.noGoto_ret]
  go_ret2
  exact ⟨rfl, (Below.refl _ _).alloc (Nat.le_refl _) _⟩

set_option maxRecDepth 100000 in
set_option maxHeartbeats 1000000 in
theorem reference_1 (s : ByteArray) (w : World) (h0 : pre [38, 97, 109, 112, 59] s.data.toList = false) (h1 : pre [38, 108, 116, 59] s.data.toList = true) :
    Calls Try.prog 116 #[.string s] w (Ret w (.tuple #[.int .i32 60, .int .i64 4])) := by
  go_enter Try.func116, Try.ntmps116
  go_wp2
  go_step3
  go_wp2
  refine wp_loop_rounds 6 ?_
  rw [rounds_succ]
  go_wp2_with (first | (go_at_call 69; refine (hasPrefix_pre _ _ _).mono ?_; rintro e w' ⟨rfl, rfl⟩) | go_in)
  rw [rounds_succ]
  go_wp2_with (first | (go_at_call 69; refine (hasPrefix_pre _ _ _).mono ?_; rintro e w' ⟨rfl, rfl⟩) | go_in)
  rw [Exit.noGoto_ret]
  go_ret2
  exact ⟨rfl, (Below.refl _ _).alloc (Nat.le_refl _) _⟩

set_option maxRecDepth 100000 in
set_option maxHeartbeats 1000000 in
theorem reference_2 (s : ByteArray) (w : World) (h0 : pre [38, 97, 109, 112, 59] s.data.toList = false) (h1 : pre [38, 108, 116, 59] s.data.toList = false) (h2 : pre [38, 103, 116, 59] s.data.toList = true) :
    Calls Try.prog 116 #[.string s] w (Ret w (.tuple #[.int .i32 62, .int .i64 4])) := by
  go_enter Try.func116, Try.ntmps116
  go_wp2
  go_step3
  go_wp2
  refine wp_loop_rounds 6 ?_
  rw [rounds_succ]
  go_wp2_with (first | (go_at_call 69; refine (hasPrefix_pre _ _ _).mono ?_; rintro e w' ⟨rfl, rfl⟩) | go_in)
  rw [rounds_succ]
  go_wp2_with (first | (go_at_call 69; refine (hasPrefix_pre _ _ _).mono ?_; rintro e w' ⟨rfl, rfl⟩) | go_in)
  rw [rounds_succ]
  go_wp2_with (first | (go_at_call 69; refine (hasPrefix_pre _ _ _).mono ?_; rintro e w' ⟨rfl, rfl⟩) | go_in)
  rw [Exit.noGoto_ret]
  go_ret2
  exact ⟨rfl, (Below.refl _ _).alloc (Nat.le_refl _) _⟩

set_option maxRecDepth 100000 in
set_option maxHeartbeats 1000000 in
theorem reference_3 (s : ByteArray) (w : World) (h0 : pre [38, 97, 109, 112, 59] s.data.toList = false) (h1 : pre [38, 108, 116, 59] s.data.toList = false) (h2 : pre [38, 103, 116, 59] s.data.toList = false) (h3 : pre [38, 113, 117, 111, 116, 59] s.data.toList = true) :
    Calls Try.prog 116 #[.string s] w (Ret w (.tuple #[.int .i32 34, .int .i64 6])) := by
  go_enter Try.func116, Try.ntmps116
  go_wp2
  go_step3
  go_wp2
  refine wp_loop_rounds 6 ?_
  rw [rounds_succ]
  go_wp2_with (first | (go_at_call 69; refine (hasPrefix_pre _ _ _).mono ?_; rintro e w' ⟨rfl, rfl⟩) | go_in)
  rw [rounds_succ]
  go_wp2_with (first | (go_at_call 69; refine (hasPrefix_pre _ _ _).mono ?_; rintro e w' ⟨rfl, rfl⟩) | go_in)
  rw [rounds_succ]
  go_wp2_with (first | (go_at_call 69; refine (hasPrefix_pre _ _ _).mono ?_; rintro e w' ⟨rfl, rfl⟩) | go_in)
  rw [rounds_succ]
  go_wp2_with (first | (go_at_call 69; refine (hasPrefix_pre _ _ _).mono ?_; rintro e w' ⟨rfl, rfl⟩) | go_in)
  rw [Exit.noGoto_ret]
  go_ret2
  exact ⟨rfl, (Below.refl _ _).alloc (Nat.le_refl _) _⟩

set_option maxRecDepth 100000 in
set_option maxHeartbeats 1000000 in
theorem reference_4 (s : ByteArray) (w : World) (h0 : pre [38, 97, 109, 112, 59] s.data.toList = false) (h1 : pre [38, 108, 116, 59] s.data.toList = false) (h2 : pre [38, 103, 116, 59] s.data.toList = false) (h3 : pre [38, 113, 117, 111, 116, 59] s.data.toList = false) (h4 : pre [38, 97, 112, 111, 115, 59] s.data.toList = true) :
    Calls Try.prog 116 #[.string s] w (Ret w (.tuple #[.int .i32 39, .int .i64 6])) := by
  go_enter Try.func116, Try.ntmps116
  go_wp2
  go_step3
  go_wp2
  refine wp_loop_rounds 6 ?_
  rw [rounds_succ]
  go_wp2_with (first | (go_at_call 69; refine (hasPrefix_pre _ _ _).mono ?_; rintro e w' ⟨rfl, rfl⟩) | go_in)
  rw [rounds_succ]
  go_wp2_with (first | (go_at_call 69; refine (hasPrefix_pre _ _ _).mono ?_; rintro e w' ⟨rfl, rfl⟩) | go_in)
  rw [rounds_succ]
  go_wp2_with (first | (go_at_call 69; refine (hasPrefix_pre _ _ _).mono ?_; rintro e w' ⟨rfl, rfl⟩) | go_in)
  rw [rounds_succ]
  go_wp2_with (first | (go_at_call 69; refine (hasPrefix_pre _ _ _).mono ?_; rintro e w' ⟨rfl, rfl⟩) | go_in)
  rw [rounds_succ]
  go_wp2_with (first | (go_at_call 69; refine (hasPrefix_pre _ _ _).mono ?_; rintro e w' ⟨rfl, rfl⟩) | go_in)
  rw [Exit.noGoto_ret]
  go_ret2
  exact ⟨rfl, (Below.refl _ _).alloc (Nat.le_refl _) _⟩

set_option maxRecDepth 100000 in
set_option maxHeartbeats 1000000 in
theorem reference_none (s : ByteArray) (w : World) (h0 : pre [38, 97, 109, 112, 59] s.data.toList = false) (h1 : pre [38, 108, 116, 59] s.data.toList = false) (h2 : pre [38, 103, 116, 59] s.data.toList = false) (h3 : pre [38, 113, 117, 111, 116, 59] s.data.toList = false) (h4 : pre [38, 97, 112, 111, 115, 59] s.data.toList = false) (h5 : pre [38, 35] s.data.toList = false) :
    Calls Try.prog 116 #[.string s] w (Ret w (.tuple #[.int .i32 0, .int .i64 0])) := by
  go_enter Try.func116, Try.ntmps116
  go_wp2
  refine wp_scope_jumps 0 (fun a' w' => a'.defers = [] ∧ a'.tmps.size = 68 ∧ Below w.heap.size w w') (fun _ _ => 0) rfl ?_ ?_
  · go_wp2
    refine wp_loop_rounds 6 ?_
    rw [rounds_succ]
    go_wp2_with (first | (go_at_call 69; refine (hasPrefix_pre _ _ _).mono ?_; rintro e w' ⟨rfl, rfl⟩) | go_in)
    rw [rounds_succ]
    go_wp2_with (first | (go_at_call 69; refine (hasPrefix_pre _ _ _).mono ?_; rintro e w' ⟨rfl, rfl⟩) | go_in)
    rw [rounds_succ]
    go_wp2_with (first | (go_at_call 69; refine (hasPrefix_pre _ _ _).mono ?_; rintro e w' ⟨rfl, rfl⟩) | go_in)
    rw [rounds_succ]
    go_wp2_with (first | (go_at_call 69; refine (hasPrefix_pre _ _ _).mono ?_; rintro e w' ⟨rfl, rfl⟩) | go_in)
    rw [rounds_succ]
    go_wp2_with (first | (go_at_call 69; refine (hasPrefix_pre _ _ _).mono ?_; rintro e w' ⟨rfl, rfl⟩) | go_in)
    rw [rounds_succ]
    go_wp2_with (first | (go_at_call 69; refine (hasPrefix_pre _ _ _).mono ?_; rintro e w' ⟨rfl, rfl⟩) | go_in)
    go_step3
    refine ⟨rfl, rfl, rfl, (Below.refl _ _).alloc (Nat.le_refl _) _⟩
  · rintro ⟨tmps, defers⟩ w' ⟨rfl, hsz, hb⟩
    simp only at hsz
    go_wp2
    simp only [Exit.jump]
    go_ret2
    exact ⟨by simp [hsz], hb⟩

set_option maxRecDepth 100000 in
set_option maxHeartbeats 2000000 in
theorem reference_ten (s : ByteArray) (w : World) (_hs : s.size ≤ maxLen) (h0 : pre [38, 97, 109, 112, 59] s.data.toList = false) (h1 : pre [38, 108, 116, 59] s.data.toList = false) (h2 : pre [38, 103, 116, 59] s.data.toList = false) (h3 : pre [38, 113, 117, 111, 116, 59] s.data.toList = false) (h4 : pre [38, 97, 112, 111, 115, 59] s.data.toList = false) (h5 : pre [38, 35] s.data.toList = true) (h6 : pre [38, 35, 120] s.data.toList = false) (hat : 2 ≤ s.size) (V : Int × Nat) (hV : Hid (V = pick 2 (scanL 10 0 0 (s.data.toList.drop 2)))) :
    Calls Try.prog 116 #[.string s] w (Ret w (.tuple #[.int .i32 V.1, .int .i64 (V.2 : Nat)])) := by
  unfold maxLen at _hs
  have hl := size_toList s
  have HL := Lib.hid hl
  clear hl
  have H0 := Lib.hid h0; have H1 := Lib.hid h1
  go_enter Try.func116, Try.ntmps116
  go_wp2
  refine wp_scope_jumps 0 (fun a' w' => a'.defers = [] ∧ a'.tmps.size = 68 ∧ Below w.heap.size w w' ∧ V = (0, 0)) (fun _ _ => 0) rfl ?_ ?_
  · go_wp2
    refine wp_loop_rounds 6 ?_
    rw [rounds_succ]
    go_wp2_with (first | (go_at_call 69; refine (hasPrefix_pre _ _ _).mono ?_; rintro e w' ⟨rfl, rfl⟩) | go_in)
    rw [rounds_succ]
    go_wp2_with (first | (go_at_call 69; refine (hasPrefix_pre _ _ _).mono ?_; rintro e w' ⟨rfl, rfl⟩) | go_in)
    rw [rounds_succ]
    go_wp2_with (first | (go_at_call 69; refine (hasPrefix_pre _ _ _).mono ?_; rintro e w' ⟨rfl, rfl⟩) | go_in)
    rw [rounds_succ]
    go_wp2_with (first | (go_at_call 69; refine (hasPrefix_pre _ _ _).mono ?_; rintro e w' ⟨rfl, rfl⟩) | go_in)
    rw [rounds_succ]
    go_wp2_with (first | (go_at_call 69; refine (hasPrefix_pre _ _ _).mono ?_; rintro e w' ⟨rfl, rfl⟩) | go_in)
    rw [rounds_succ]
    go_wp2_with (first | (go_at_call 69; refine (hasPrefix_pre _ _ _).mono ?_; rintro e w' ⟨rfl, rfl⟩) | go_in)

    go_loop [4, 10] (fun c i => ∃ (k : Nat) (cv : Int), k ≤ 7 ∧ 2 + k ≤ s.size ∧ i = .int .i64 ((2 + k : Nat) : Int) ∧ c = .int .i32 cv ∧ 0 ≤ cv ∧ cv < 16 ^ k ∧ Hid (V = pick 2 (scanL 10 k cv (s.data.toList.drop (2 + k))))) (fun _ i => s.size - (intOf i).toNat)
    case atStart => exact ⟨0, 0, by omega, by omega, rfl, rfl, by omega, by decide, hV⟩
    case round =>
      obtain ⟨k, cv, hk7, hks, rfl, rfl, hc0, hc1, hsc⟩ := hrel
      have hp16 : (16 : Int) ^ k ≤ 268435456 := by
        rcases (by omega : k = 0 ∨ k = 1 ∨ k = 2 ∨ k = 3 ∨ k = 4 ∨ k = 5 ∨ k = 6 ∨ k = 7) with rfl | rfl | rfl | rfl | rfl | rfl | rfl | rfl <;> decide
      have hp6 : k < 7 → (16 : Int) ^ k ≤ 16777216 := by
        intro h
        rcases (by omega : k = 0 ∨ k = 1 ∨ k = 2 ∨ k = 3 ∨ k = 4 ∨ k = 5 ∨ k = 6) with rfl | rfl | rfl | rfl | rfl | rfl | rfl <;> decide
      have hcv : cv < 268435456 := by omega
      have hcv6 : k < 7 → cv < 16777216 := fun h => by have := hp6 h; omega
      have HC1 := Lib.hid hc1
      have HC6 := Lib.hid hcv6
      clear hc1 hp16 hp6 hcv6
      by_cases hend : s.size ≤ 2 + k
      · have hv : Hid (V = (0, 0)) := by
          have : s.data.toList.drop (2 + k) = [] := List.drop_eq_nil_of_le (by have := HL.out; omega)
          show _ = _
          rw [hsc.out, this]; rfl
        go_wp2_with fail
        go_step3
        go_wp2_with fail
        simp only [Exit.jump]
        go_ret2
        exact ⟨by rw [hv.out]; rfl, (Below.refl _ _).alloc (Nat.le_refl _) _⟩
      · have hj : 2 + k < s.size := by omega
        obtain ⟨x, HX⟩ : ∃ x, Hid (s.data.toList[2 + k]? = some x) := ⟨s.data.toList[2 + k]'(by have := HL.out; omega), List.getElem?_eq_getElem _⟩
        have hsx : s[2 + k] = x := getk_of s (2 + k) x HX.out hj
        have hdr : s.data.toList.drop (2 + k) = x :: s.data.toList.drop (2 + k + 1) := by
          have hj' : 2 + k < s.data.toList.length := by have := HL.out; omega
          have hg := HX.out
          rw [List.getElem?_eq_getElem hj'] at hg
          rw [List.drop_eq_getElem_cons hj', Option.some.inj hg]
        have HDR := Lib.hid hdr
        clear hdr
        have hx1 : (x.toNat : Int) < 256 := by have := x.toNat_lt; omega
        have hxe : (x = 59) ↔ (x.toNat : Int) = 59 := by
          constructor
          · rintro rfl; rfl
          · intro h; exact UInt8.toNat_inj.1 (by have : (59 : UInt8).toNat = 59 := rfl; omega)
        have HXE := Lib.hid hxe
        clear hxe
        by_cases hA : (x.toNat : Int) = 59 ∧ 0 < k
        · obtain ⟨hA1, hA2⟩ := hA
          have hv : Hid (V = (cv, 2 + k + 1)) := by
            show _ = _
            rw [hsc.out, HDR.out]
            simp only [scanL]
            rw [if_pos ⟨HXE.out.2 hA1, hA2⟩]; rfl
          have hx59 : ((x.toNat : Int) == 59) = true := by simp [hA1]
          clear hA1
          go_wp2_with fail
          simp only [Exit.jump]
          go_ret2
          exact ⟨by rw [hv.out]; exact ret_ii rfl (by omega), (Below.refl _ _).alloc (Nat.le_refl _) _⟩
        · have hcond : ¬ (x = 59 ∧ 0 < k) := fun h => hA ⟨HXE.out.1 h.1, h.2⟩
          have hstep : scanL 10 k cv (s.data.toList.drop (2 + k)) = if digitV 10 x.toNat < 0 ∨ 7 ≤ k then none else scanL 10 (k + 1) (cv * 10 + digitV 10 x.toNat) (s.data.toList.drop (2 + k + 1)) := by
            rw [HDR.out]; simp only [scanL]; rw [if_neg hcond]
          have hdb := digitV_bd 10 x.toNat
          have h59d : (x.toNat : Int) = 59 → digitV 10 x.toNat = -1 := fun h => by rw [h]; decide
          generalize hdv : digitV 10 x.toNat = dv at *
          have HDV := Lib.hid hdv
          clear hdv hcond
          obtain ⟨hdb0, hdb1⟩ := hdb
          have HS := Lib.hid hstep
          clear hstep
          by_cases hB : dv < 0 ∨ 7 ≤ k
          · have hv : Hid (V = (0, 0)) := by
              show _ = _
              rw [hsc.out, HS.out, if_pos hB]; rfl
            by_cases h59 : (x.toNat : Int) = 59
            · have hk0 : k ≤ 0 := by omega
              have hdv1 := h59d h59
              have hx59 : ((x.toNat : Int) == 59) = true := by simp [h59]
              have hlt0 : dv < 0 := by omega
              clear h59 h59d hA hdv1 hB
              go_wp2_with (go_at_call 138; refine (digit_as _ _ _ (by omega) (by omega) dv HDV).mono ?_; rintro e w' ⟨rfl, rfl⟩)
              go_step3
              exact ⟨rfl, rfl, rfl, (Below.refl _ _).alloc (Nat.le_refl _) _, hv.out⟩
            · have hx59 : ((x.toNat : Int) == 59) = false := by simp [h59]
              clear h59 h59d hA
              by_cases hlt0 : dv < 0
              · clear hB
                go_wp2_with (go_at_call 138; refine (digit_as _ _ _ (by omega) (by omega) dv HDV).mono ?_; rintro e w' ⟨rfl, rfl⟩)
                go_step3
                exact ⟨rfl, rfl, rfl, (Below.refl _ _).alloc (Nat.le_refl _) _, hv.out⟩
              · have h7 : 7 ≤ k := by omega
                clear hB
                go_wp2_with (go_at_call 138; refine (digit_as _ _ _ (by omega) (by omega) dv HDV).mono ?_; rintro e w' ⟨rfl, rfl⟩)
                go_step3
                exact ⟨rfl, rfl, rfl, (Below.refl _ _).alloc (Nat.le_refl _) _, hv.out⟩
          · have hlt0 : 0 ≤ dv := by omega
            have hk7 : k < 7 := by omega
            have hcv7 := HC6.out hk7
            have hpw : cv * 10 + dv < 16 ^ (k + 1) := by
              have := HC1.out
              rw [Int.pow_succ]; omega
            have HPW := Lib.hid hpw
            have hsn : Hid (V = pick 2 (scanL 10 (k + 1) (cv * 10 + dv) (s.data.toList.drop (2 + k + 1)))) := by
              show _ = _
              rw [hsc.out, HS.out, if_neg hB]
            clear hpw hB
            by_cases h59 : (x.toNat : Int) = 59
            · have := h59d h59
              omega
            · have hx59 : ((x.toNat : Int) == 59) = false := by simp [h59]
              clear h59 h59d hA
              go_wp2_with (go_at_call 138; refine (digit_as _ _ _ (by omega) (by omega) dv HDV).mono ?_; rintro e w' ⟨rfl, rfl⟩)
              go_round
              case rel => exact ⟨k + 1, cv * 10 + dv, by omega, by omega, by go_num, rfl, by omega, HPW.out, hsn⟩
              case measure => simp [intOf]; omega
  · rintro ⟨tmps, defers⟩ w' ⟨rfl, hsz, hb, hv⟩
    simp only at hsz
    subst hv
    go_wp2
    simp only [Exit.jump]
    go_ret2
    exact ⟨by simp [hsz], hb⟩

set_option maxRecDepth 100000 in
set_option maxHeartbeats 2000000 in
theorem reference_hex (s : ByteArray) (w : World) (_hs : s.size ≤ maxLen) (h0 : pre [38, 97, 109, 112, 59] s.data.toList = false) (h1 : pre [38, 108, 116, 59] s.data.toList = false) (h2 : pre [38, 103, 116, 59] s.data.toList = false) (h3 : pre [38, 113, 117, 111, 116, 59] s.data.toList = false) (h4 : pre [38, 97, 112, 111, 115, 59] s.data.toList = false) (h5 : pre [38, 35] s.data.toList = true) (h6 : pre [38, 35, 120] s.data.toList = true) (hat : 3 ≤ s.size) (V : Int × Nat) (hV : Hid (V = pick 3 (scanL 16 0 0 (s.data.toList.drop 3)))) :
    Calls Try.prog 116 #[.string s] w (Ret w (.tuple #[.int .i32 V.1, .int .i64 (V.2 : Nat)])) := by
  unfold maxLen at _hs
  have hl := size_toList s
  have HL := Lib.hid hl
  clear hl
  have H0 := Lib.hid h0; have H1 := Lib.hid h1
  go_enter Try.func116, Try.ntmps116
  go_wp2
  refine wp_scope_jumps 0 (fun a' w' => a'.defers = [] ∧ a'.tmps.size = 68 ∧ Below w.heap.size w w' ∧ V = (0, 0)) (fun _ _ => 0) rfl ?_ ?_
  · go_wp2
    refine wp_loop_rounds 6 ?_
    rw [rounds_succ]
    go_wp2_with (first | (go_at_call 69; refine (hasPrefix_pre _ _ _).mono ?_; rintro e w' ⟨rfl, rfl⟩) | go_in)
    rw [rounds_succ]
    go_wp2_with (first | (go_at_call 69; refine (hasPrefix_pre _ _ _).mono ?_; rintro e w' ⟨rfl, rfl⟩) | go_in)
    rw [rounds_succ]
    go_wp2_with (first | (go_at_call 69; refine (hasPrefix_pre _ _ _).mono ?_; rintro e w' ⟨rfl, rfl⟩) | go_in)
    rw [rounds_succ]
    go_wp2_with (first | (go_at_call 69; refine (hasPrefix_pre _ _ _).mono ?_; rintro e w' ⟨rfl, rfl⟩) | go_in)
    rw [rounds_succ]
    go_wp2_with (first | (go_at_call 69; refine (hasPrefix_pre _ _ _).mono ?_; rintro e w' ⟨rfl, rfl⟩) | go_in)
    rw [rounds_succ]
    go_wp2_with (first | (go_at_call 69; refine (hasPrefix_pre _ _ _).mono ?_; rintro e w' ⟨rfl, rfl⟩) | go_in)

    go_loop [4, 10] (fun c i => ∃ (k : Nat) (cv : Int), k ≤ 7 ∧ 3 + k ≤ s.size ∧ i = .int .i64 ((3 + k : Nat) : Int) ∧ c = .int .i32 cv ∧ 0 ≤ cv ∧ cv < 16 ^ k ∧ Hid (V = pick 3 (scanL 16 k cv (s.data.toList.drop (3 + k))))) (fun _ i => s.size - (intOf i).toNat)
    case atStart => exact ⟨0, 0, by omega, by omega, rfl, rfl, by omega, by decide, hV⟩
    case round =>
      obtain ⟨k, cv, hk7, hks, rfl, rfl, hc0, hc1, hsc⟩ := hrel
      have hp16 : (16 : Int) ^ k ≤ 268435456 := by
        rcases (by omega : k = 0 ∨ k = 1 ∨ k = 2 ∨ k = 3 ∨ k = 4 ∨ k = 5 ∨ k = 6 ∨ k = 7) with rfl | rfl | rfl | rfl | rfl | rfl | rfl | rfl <;> decide
      have hp6 : k < 7 → (16 : Int) ^ k ≤ 16777216 := by
        intro h
        rcases (by omega : k = 0 ∨ k = 1 ∨ k = 2 ∨ k = 3 ∨ k = 4 ∨ k = 5 ∨ k = 6) with rfl | rfl | rfl | rfl | rfl | rfl | rfl <;> decide
      have hcv : cv < 268435456 := by omega
      have hcv6 : k < 7 → cv < 16777216 := fun h => by have := hp6 h; omega
      have HC1 := Lib.hid hc1
      have HC6 := Lib.hid hcv6
      clear hc1 hp16 hp6 hcv6
      by_cases hend : s.size ≤ 3 + k
      · have hv : Hid (V = (0, 0)) := by
          have : s.data.toList.drop (3 + k) = [] := List.drop_eq_nil_of_le (by have := HL.out; omega)
          show _ = _
          rw [hsc.out, this]; rfl
        go_wp2_with fail
        go_step3
        go_wp2_with fail
        simp only [Exit.jump]
        go_ret2
        exact ⟨by rw [hv.out]; rfl, (Below.refl _ _).alloc (Nat.le_refl _) _⟩
      · have hj : 3 + k < s.size := by omega
        obtain ⟨x, HX⟩ : ∃ x, Hid (s.data.toList[3 + k]? = some x) := ⟨s.data.toList[3 + k]'(by have := HL.out; omega), List.getElem?_eq_getElem _⟩
        have hsx : s[3 + k] = x := getk_of s (3 + k) x HX.out hj
        have hdr : s.data.toList.drop (3 + k) = x :: s.data.toList.drop (3 + k + 1) := by
          have hj' : 3 + k < s.data.toList.length := by have := HL.out; omega
          have hg := HX.out
          rw [List.getElem?_eq_getElem hj'] at hg
          rw [List.drop_eq_getElem_cons hj', Option.some.inj hg]
        have HDR := Lib.hid hdr
        clear hdr
        have hx1 : (x.toNat : Int) < 256 := by have := x.toNat_lt; omega
        have hxe : (x = 59) ↔ (x.toNat : Int) = 59 := by
          constructor
          · rintro rfl; rfl
          · intro h; exact UInt8.toNat_inj.1 (by have : (59 : UInt8).toNat = 59 := rfl; omega)
        have HXE := Lib.hid hxe
        clear hxe
        by_cases hA : (x.toNat : Int) = 59 ∧ 0 < k
        · obtain ⟨hA1, hA2⟩ := hA
          have hv : Hid (V = (cv, 3 + k + 1)) := by
            show _ = _
            rw [hsc.out, HDR.out]
            simp only [scanL]
            rw [if_pos ⟨HXE.out.2 hA1, hA2⟩]; rfl
          have hx59 : ((x.toNat : Int) == 59) = true := by simp [hA1]
          clear hA1
          go_wp2_with fail
          simp only [Exit.jump]
          go_ret2
          exact ⟨by rw [hv.out]; exact ret_ii rfl (by omega), (Below.refl _ _).alloc (Nat.le_refl _) _⟩
        · have hcond : ¬ (x = 59 ∧ 0 < k) := fun h => hA ⟨HXE.out.1 h.1, h.2⟩
          have hstep : scanL 16 k cv (s.data.toList.drop (3 + k)) = if digitV 16 x.toNat < 0 ∨ 7 ≤ k then none else scanL 16 (k + 1) (cv * 16 + digitV 16 x.toNat) (s.data.toList.drop (3 + k + 1)) := by
            rw [HDR.out]; simp only [scanL]; rw [if_neg hcond]
          have hdb := digitV_bd 16 x.toNat
          have h59d : (x.toNat : Int) = 59 → digitV 16 x.toNat = -1 := fun h => by rw [h]; decide
          generalize hdv : digitV 16 x.toNat = dv at *
          have HDV := Lib.hid hdv
          clear hdv hcond
          obtain ⟨hdb0, hdb1⟩ := hdb
          have HS := Lib.hid hstep
          clear hstep
          by_cases hB : dv < 0 ∨ 7 ≤ k
          · have hv : Hid (V = (0, 0)) := by
              show _ = _
              rw [hsc.out, HS.out, if_pos hB]; rfl
            by_cases h59 : (x.toNat : Int) = 59
            · have hk0 : k ≤ 0 := by omega
              have hdv1 := h59d h59
              have hx59 : ((x.toNat : Int) == 59) = true := by simp [h59]
              have hlt0 : dv < 0 := by omega
              clear h59 h59d hA hdv1 hB
              go_wp2_with (go_at_call 138; refine (digit_as _ _ _ (by omega) (by omega) dv HDV).mono ?_; rintro e w' ⟨rfl, rfl⟩)
              go_step3
              exact ⟨rfl, rfl, rfl, (Below.refl _ _).alloc (Nat.le_refl _) _, hv.out⟩
            · have hx59 : ((x.toNat : Int) == 59) = false := by simp [h59]
              clear h59 h59d hA
              by_cases hlt0 : dv < 0
              · clear hB
                go_wp2_with (go_at_call 138; refine (digit_as _ _ _ (by omega) (by omega) dv HDV).mono ?_; rintro e w' ⟨rfl, rfl⟩)
                go_step3
                exact ⟨rfl, rfl, rfl, (Below.refl _ _).alloc (Nat.le_refl _) _, hv.out⟩
              · have h7 : 7 ≤ k := by omega
                clear hB
                go_wp2_with (go_at_call 138; refine (digit_as _ _ _ (by omega) (by omega) dv HDV).mono ?_; rintro e w' ⟨rfl, rfl⟩)
                go_step3
                exact ⟨rfl, rfl, rfl, (Below.refl _ _).alloc (Nat.le_refl _) _, hv.out⟩
          · have hlt0 : 0 ≤ dv := by omega
            have hk7 : k < 7 := by omega
            have hcv7 := HC6.out hk7
            have hpw : cv * 16 + dv < 16 ^ (k + 1) := by
              have := HC1.out
              rw [Int.pow_succ]; omega
            have HPW := Lib.hid hpw
            have hsn : Hid (V = pick 3 (scanL 16 (k + 1) (cv * 16 + dv) (s.data.toList.drop (3 + k + 1)))) := by
              show _ = _
              rw [hsc.out, HS.out, if_neg hB]
            clear hpw hB
            by_cases h59 : (x.toNat : Int) = 59
            · have := h59d h59
              omega
            · have hx59 : ((x.toNat : Int) == 59) = false := by simp [h59]
              clear h59 h59d hA
              go_wp2_with (go_at_call 138; refine (digit_as _ _ _ (by omega) (by omega) dv HDV).mono ?_; rintro e w' ⟨rfl, rfl⟩)
              go_round
              case rel => exact ⟨k + 1, cv * 16 + dv, by omega, by omega, by go_num, rfl, by omega, HPW.out, hsn⟩
              case measure => simp [intOf]; omega
  · rintro ⟨tmps, defers⟩ w' ⟨rfl, hsz, hb, hv⟩
    simp only at hsz
    subst hv
    go_wp2
    simp only [Exit.jump]
    go_ret2
    exact ⟨by simp [hsz], hb⟩


/-- escape.reference: any text. -/
theorem reference_any (s : ByteArray) (w : World) (hs : s.size ≤ maxLen) :
    Calls Try.prog 116 #[.string s] w (Ret w (.tuple #[.int .i32 (refL s.data.toList).1, .int .i64 ((refL s.data.toList).2 : Nat)])) := by
  have hl := size_toList s
  unfold refL
  by_cases h0 : pre [38, 97, 109, 112, 59] s.data.toList = true
  · rw [if_pos h0]; exact reference_0 s w h0
  by_cases h1 : pre [38, 108, 116, 59] s.data.toList = true
  · rw [if_neg h0, if_pos h1]; exact reference_1 s w (by simpa using h0) h1
  by_cases h2 : pre [38, 103, 116, 59] s.data.toList = true
  · rw [if_neg h0, if_neg h1, if_pos h2]; exact reference_2 s w (by simpa using h0) (by simpa using h1) h2
  by_cases h3 : pre [38, 113, 117, 111, 116, 59] s.data.toList = true
  · rw [if_neg h0, if_neg h1, if_neg h2, if_pos h3]; exact reference_3 s w (by simpa using h0) (by simpa using h1) (by simpa using h2) h3
  by_cases h4 : pre [38, 97, 112, 111, 115, 59] s.data.toList = true
  · rw [if_neg h0, if_neg h1, if_neg h2, if_neg h3, if_pos h4]; exact reference_4 s w (by simpa using h0) (by simpa using h1) (by simpa using h2) (by simpa using h3) h4
  rw [if_neg h0, if_neg h1, if_neg h2, if_neg h3, if_neg h4]
  by_cases h5 : pre [38, 35] s.data.toList = true
  · rw [if_pos h5]
    have h5l := pre_len h5
    by_cases h6 : pre [38, 35, 120] s.data.toList = true
    · rw [if_pos h6]
      have h6l := pre_len h6
      exact reference_hex s w hs (by simpa using h0) (by simpa using h1) (by simpa using h2) (by simpa using h3) (by simpa using h4) h5 h6 (by rw [← hl]; exact h6l) _ rfl
    · rw [if_neg h6]
      exact reference_ten s w hs (by simpa using h0) (by simpa using h1) (by simpa using h2) (by simpa using h3) (by simpa using h4) h5 (by simpa using h6) (by rw [← hl]; exact h5l) _ rfl
  · rw [if_neg h5]
    exact reference_none s w (by simpa using h0) (by simpa using h1) (by simpa using h2) (by simpa using h3) (by simpa using h4) (by simpa using h5)
end Go.Proofs.Ythifddkmbjnncaa
